import Derived.Test.YtojghialjpianaaProg
import Derived.Test.YtojghialjpianaaFD16
import Derived.Test.YtojghialjpianaaP16c
set_option linter.unusedVariables false
set_option linter.unusedSimpArgs false
namespace Go.Proofs.Ytojghialjpianaa.M
open Go Go.Sep Go.Proofs
set_option maxRecDepth 10000
set_option maxHeartbeats 2000000
theorem samesT {w0 : World} {H : List Chunk} (ps qs : List Fs) (sa sb : Option Addr) (n c m d : Nat) (hR : Rd w0 H sa n c 11 (ps.flatMap FsC)) (hS : Rd w0 H sb m d 11 (qs.flatMap FsC)) (hn : n = ps.length) (hm : m = qs.length) (hn2 : n ≤ 4398046511104) (hm2 : m ≤ 4398046511104) (hA : ∀ x ∈ ps, FsOk w0 H x) (hB : ∀ x ∈ qs, FsOk w0 H x) (he : frs ps = frs qs) : SC Try.prog w0 17 #[.slice sa n c, .slice sb m d] H (fun v H' => v = .bool true ∧ H' = H) := by
  have h := sames ps qs sa sb n c m d hR hS hn hm hn2 hm2 hA hB
  rw [decide_eq_true he] at h
  exact h
theorem fifoClears {w0 : World} {H : List Chunk} (room : Nat) (hr : room ≤ 64) (ls1 : List Fs) (sr1 : Option Addr) (nr1 cr1 : Nat) (hB1 : ∀ H, Rd w0 H sr1 nr1 cr1 11 (ls1.flatMap FsC)) (hnr1 : nr1 = ls1.length) (hmr1 : nr1 ≤ 4398046511000) (hls1 : ∀ H, ∀ x ∈ ls1, FsOk w0 H x) (ls2 : List Fs) (sr2 : Option Addr) (nr2 cr2 : Nat) (hB2 : ∀ H, Rd w0 H sr2 nr2 cr2 11 (ls2.flatMap FsC)) (hnr2 : nr2 = ls2.length) (hmr2 : nr2 ≤ 4398046511000) (hls2 : ∀ H, ∀ x ∈ ls2, FsOk w0 H x) : SC Try.prog w0 8 #[.int .i64 (room : Nat), .slice sr1 nr1 cr1, .slice sr2 nr2 cr2] H (fun v H' => v = .bool true ∧ H' = H) := by
 refine SC.enter Try.func8 rfl (Nat.le_of_ble_eq_true rfl) ?_
 refine SW.seq_k fun K0 hK0 => ?_
 refine SW.region _ _ _ _ ?_
 refine RL.p T ?_
 refine RL.nil _ _ _ _ ?_
 refine hK0 _ _ _ ?_
 refine SW.seq_k fun K1 hK1 => ?_
 refine SW.seq_k fun K2 hK2 => ?_
 refine SW.region _ _ _ _ ?_
 refine RL.c fun9 (fun hs => alive) ?_
 rintro _ _ ⟨rfl, e⟩; obtain rfl := e.symm
 refine RL.p T ?_
 refine RL.nil _ _ _ _ ?_
 refine hK2 _ _ _ ?_
 refine SW.cs (fun hc0 => ?_) (fun hc0 => ?_)
 ·skip
  first
   | (exfalso; first | omega | contradiction | (simp at *; done))
   | (
    refine SW.seq_k fun K3 hK3 => ?_
    refine SW.region _ _ _ _ ?_
    refine RL.p T ?_
    refine RL.nil _ _ _ _ ?_
    refine hK3 _ _ _ ?_
    refine SW.ret ?_
    refine retQ.rr (H) ?_
    clear hK3 K3 hK2 K2 hK1 K1 hK0 K0
    first
      | exact ⟨rfl, rfl⟩
      | (refine ⟨boolE ?_, rfl⟩; simp; done)
    )
 ·skip
  first
   | (exfalso; first | omega | contradiction | (simp at *; done))
   | (
    refine SW.skip ?_
    refine hK1 _ _ _ ?_
    refine SW.seq_k fun K4 hK4 => ?_
    refine SW.region _ _ _ _ ?_
    refine RL.p T ?_
    refine RL.c fun10 (fun hs => fnew room hr) ?_
    rintro _ _ ⟨bq, rfl, e⟩; obtain rfl := e.symm
    refine RL.p T ?_
    refine RL.p T ?_
    refine RL.p T ?_
    refine RL.p T ?_
    refine RL.p T ?_
    refine RL.nil _ _ _ _ ?_
    refine hK4 _ _ _ ?_
    refine SW.seq_k fun K5 hK5 => ?_
    refine SW.region _ _ _ _ ?_
    refine RL.p T ?_
    refine RL.c fun10 (fun hs => fnew room hr) ?_
    rintro _ _ ⟨bc, rfl, e⟩; obtain rfl := e.symm
    refine RL.p T ?_
    refine RL.p T ?_
    refine RL.p T ?_
    refine RL.p T ?_
    refine RL.p T ?_
    refine RL.nil _ _ _ _ ?_
    refine hK5 _ _ _ ?_
    refine SW.seq_k fun K6 hK6 => ?_
    refine SW.seq_k fun K7 hK7 => ?_
    refine SW.region _ _ _ _ ?_
    refine RL.p T ?_
    refine RL.p T ?_
    refine RL.p T ?_
    refine RL.sp 34 (fun hs0 => ?_) (fun hs0 => ?_)
    ·skip
     first
      | (exfalso; first | omega | contradiction | (simp at *; done))
      | (
       refine RL.guard_no rfl rfl rfl ?_
       refine RL.guard_no rfl rfl rfl ?_
       refine RL.p T ?_
       refine RL.p T ?_
       refine RL.guard_no rfl rfl rfl ?_
       refine RL.guard_no rfl rfl rfl ?_
       refine RL.guard_no rfl rfl rfl ?_
       refine RL.p T ?_
       refine RL.p T ?_
       refine RL.guard_no rfl rfl rfl ?_
       refine RL.guard_no rfl rfl rfl ?_
       refine RL.guard_no rfl rfl rfl ?_
       refine RL.p T ?_
       refine RL.nil _ _ _ _ ?_
       refine hK7 _ _ _ ?_
       refine SW.cond_t rfl ?_
       refine SW.seq_k fun K8 hK8 => ?_
       refine SW.region _ _ _ _ ?_
       refine RL.p T ?_
       refine RL.p T ?_
       refine RL.p T ?_
       refine RL.p T ?_
       refine RL.nil _ _ _ _ ?_
       refine hK8 _ _ _ ?_
       refine SW.ret ?_
       refine retQ.rr (H) ?_
       clear hK8 K8 hK7 K7 hK6 K6 hK5 K5 hK4 K4 hK2 K2 hK1 K1 hK0 K0
       first
         | exact ⟨rfl, rfl⟩
         | (refine ⟨boolE ?_, rfl⟩; simp; done)
       )
    ·skip
     first
      | (exfalso; first | omega | contradiction | (simp at *; done))
      | (
       refine RL.p T ?_
       refine RL.p T ?_
       refine RL.p T ?_
       refine RL.p T ?_
       refine RL.sp 38 (fun hs1 => ?_) (fun hs1 => ?_)
       ·skip
        first
         | (exfalso; first | omega | contradiction | (simp at *; done))
         | (
          refine RL.guard_no rfl rfl rfl ?_
          refine RL.guard_no rfl rfl rfl ?_
          refine RL.guard_no rfl rfl rfl ?_
          refine RL.p T ?_
          refine RL.p T ?_
          refine RL.guard_no rfl rfl rfl ?_
          refine RL.guard_no rfl rfl rfl ?_
          refine RL.guard_no rfl rfl rfl ?_
          refine RL.p T ?_
          refine RL.nil _ _ _ _ ?_
          refine hK7 _ _ _ ?_
          refine SW.cond_t rfl ?_
          refine SW.seq_k fun K9 hK9 => ?_
          refine SW.region _ _ _ _ ?_
          refine RL.p T ?_
          refine RL.p T ?_
          refine RL.p T ?_
          refine RL.p T ?_
          refine RL.nil _ _ _ _ ?_
          refine hK9 _ _ _ ?_
          refine SW.ret ?_
          refine retQ.rr (H) ?_
          clear hK9 K9 hK7 K7 hK6 K6 hK5 K5 hK4 K4 hK2 K2 hK1 K1 hK0 K0
          first
            | exact ⟨rfl, rfl⟩
            | (refine ⟨boolE ?_, rfl⟩; simp; done)
          )
       ·skip
        first
         | (exfalso; first | omega | contradiction | (simp at *; done))
         | (
          refine RL.p T ?_
          refine RL.p T ?_
          refine RL.p T ?_
          refine RL.p T ?_
          refine RL.p T ?_
          refine RL.sp 43 (fun hs2 => ?_) (fun hs2 => ?_)
          ·skip
           first
            | (exfalso; first | omega | contradiction | (simp at *; done))
            | (
             refine RL.guard_no rfl rfl rfl ?_
             refine RL.guard_no rfl rfl rfl ?_
             refine RL.guard_no rfl rfl rfl ?_
             refine RL.p T ?_
             refine RL.nil _ _ _ _ ?_
             refine hK7 _ _ _ ?_
             refine SW.cond_t rfl ?_
             refine SW.seq_k fun K10 hK10 => ?_
             refine SW.region _ _ _ _ ?_
             refine RL.p T ?_
             refine RL.p T ?_
             refine RL.p T ?_
             refine RL.p T ?_
             refine RL.nil _ _ _ _ ?_
             refine hK10 _ _ _ ?_
             refine SW.ret ?_
             refine retQ.rr (H) ?_
             clear hK10 K10 hK7 K7 hK6 K6 hK5 K5 hK4 K4 hK2 K2 hK1 K1 hK0 K0
             first
               | exact ⟨rfl, rfl⟩
               | (refine ⟨boolE ?_, rfl⟩; simp; done)
             )
          ·skip
           first
            | (exfalso; first | omega | contradiction | (simp at *; done))
            | (
             refine RL.p T ?_
             refine RL.p T ?_
             refine RL.p T ?_
             refine RL.p T ?_
             refine RL.nil _ _ _ _ ?_
             refine hK7 _ _ _ ?_
             refine SW.cs (fun hc1 => ?_) (fun hc1 => ?_)
             ·skip
              first
               | (exfalso; first | omega | contradiction | (simp at *; done))
               | (
                refine SW.seq_k fun K11 hK11 => ?_
                refine SW.region _ _ _ _ ?_
                refine RL.p T ?_
                refine RL.p T ?_
                refine RL.p T ?_
                refine RL.p T ?_
                refine RL.nil _ _ _ _ ?_
                refine hK11 _ _ _ ?_
                refine SW.ret ?_
                refine retQ.rr (H) ?_
                clear hK11 K11 hK7 K7 hK6 K6 hK5 K5 hK4 K4 hK2 K2 hK1 K1 hK0 K0
                first
                  | exact ⟨rfl, rfl⟩
                  | (refine ⟨boolE ?_, rfl⟩; simp; done)
                )
             ·skip
              first
               | (exfalso; first | omega | contradiction | (simp at *; done))
               | (
                refine SW.skip ?_
                refine hK6 _ _ _ ?_
                refine SW.seq_k fun K12 hK12 => ?_
                refine SW.seq_k fun K13 hK13 => ?_
                refine SW.perm (.swap _ _ _) ?_
                refine SW.region _ _ _ _ ?_
                refine RL.p T ?_
                refine RL.p T ?_
                refine RL.p T ?_
                refine RL.nil _ _ _ _ ?_
                refine hK13 _ _ _ ?_
                refine SW.block ?_
                refine SW.loopM (fun frB mm fr ds HH => ∃ (k : Nat) (R : Nat → Fs) (over q : Nat) (G : List Chunk) (L : List Fs), mm = nr1 - k ∧ (k ≤ nr1 ∧ RingIs R 0 L ∧ q = L.length ∧ (∀ x ∈ L, FsOk w0 G x) ∧ over ≤ k) ∧ FrIs [12, 53, 54, 55, 56, 57, 58, 59, 60] frB fr [(53, .int .i64 k)] ∧ ds = [] ∧ HH = (.var bq 57 (FifoC R room ((0 : Nat) : Int) ((q : Nat) : Int) ((over : Nat) : Int)) :: (G ++ (.var bc 57 (FifoC (fun _ => default) room 0 0 0) :: H)))) (n := nr1 - 0) ?_ ?_
                ·exact ⟨0, _, 0, 0, [], [], rfl, ⟨Nat.zero_le _, RingIs.nil _, rfl, (fun _ h => by cases h), Nat.le_refl _⟩, (.consI rfl (by first | omega | rfl) (.nil (by repeat first | exact Mx.refl | exact Mx.mix | refine Mx.put rfl ?_ | refine Mx.upd rfl ?_ | refine Mx.updl rfl ?_ | refine Mx.fin rfl ?_ | refine Mx.inner rfl ?_ | refine Mx.none ?_))), rfl, rfl⟩
                ·rintro mm fr ds HH ⟨k, R, over, q, G, L, rfl, ⟨hk, hL, hq, hLo, hov⟩, hFr, rfl, eHH⟩
                 obtain rfl := eHH.symm
                 obtain ⟨frU, rfl⟩ := hFr.eq
                 clear hFr
                 have hx : ∀ {H : List Chunk}, FsOk w0 H (ls1.getD k default) := fun {H} => getD_mem FsOk.dflt (hls1 H) k
                 have hx0 := @hx []
                 refine SW.seq_k fun K14 hK14 => ?_
                 refine SW.region _ _ _ _ ?_
                 refine RL.p T ?_
                 refine RL.nil _ _ _ _ ?_
                 refine hK14 _ _ _ ?_
                 refine SW.seq_k fun K15 hK15 => ?_
                 refine SW.cs (fun hc2 => ?_) (fun hc2 => ?_)
                 ·skip
                  first
                   | (exfalso; first | omega | contradiction | (simp at *; done))
                   | (
                    refine SW.skip ?_
                    refine hK15 _ _ _ ?_
                    refine SW.seq_k fun K16 hK16 => ?_
                    refine SW.block ?_
                    refine SW.seq_k fun K17 hK17 => ?_
                    refine SW.region _ _ _ _ ?_
                    refine RL.ix T ?_ (hR := fun hs => (by first | exact hB1 _ | exact hB2 _))
                    refine RL.leN T ?_ (hR := fun hs => (by first | exact hB1 _ | exact hB2 _)) (hvs := (by exact (rfl : _ = [_, _, _, _, _, _, _, _, _, _, _])))
                    refine RL.s ?_
                    refine NV.alloc T rfl rfl rfl (by exact (rfl : _ = [_, _, _, _, _, _, _, _, _, _, _])) ?_
                    intro b12_0
                    refine RL.s ?_
                    refine NV.sN T rfl rfl rfl (by exact (rfl : _ = [_, _, _, _, _, _, _, _, _, _, _])) (by exact (rfl : _ = [_, _, _, _, _, _, _, _, _, _, _])) ?_
                    refine RL.nil _ _ _ _ ?_
                    refine hK17 _ _ _ ?_
                    refine SW.region _ _ _ _ ?_
                    refine RL.p T ?_
                    refine RL.q (QV.vN T rfl rfl rfl rfl rfl (by exact (rfl : _ = [_, _, _, _, _, _, _, _, _, _, _]))) ?_
                    refine RL.c fun11 (fun hs => pushU bq R room 0 q over _ (by repeat first | exact At.head _ _ | assumption | apply At.tail | apply At.app) L hL hq hr (by omega) (ls1.getD k default) hx) ?_
                    rintro _ _ ⟨D1, R1, n1, o1, L1, rfl, e, hL1, hn1, hf1, ho1, hg1⟩; obtain rfl := e.symm
                    have hpo := pushO_or room q over (ls1.getD k default).f
                    rw [← ho1] at hpo
                    refine RL.nil _ _ _ _ ?_
                    refine hK16 _ _ _ ?_
                    refine SW.weaken (fun _ h => satmv h) ?_
                    refine SW.region _ _ _ _ ?_
                    first | refine RL.ar ?_ | refine RL.p T ?_
                    refine RL.p T ?_
                    refine RL.nil _ _ _ _ ?_
                    exact ⟨nr1 - (k + 1), (by omega), k + 1, R1, o1, n1, D1 ++ G, L1, (by rfl), ⟨by omega, hL1, hn1, okmix hLo hg1, by omega⟩, (.consI rfl (by first | omega | rfl) (.nil (by repeat first | exact Mx.refl | exact Mx.mix | refine Mx.put rfl ?_ | refine Mx.upd rfl ?_ | refine Mx.updl rfl ?_ | refine Mx.fin rfl ?_ | refine Mx.inner rfl ?_ | refine Mx.none ?_))), rfl, rfl⟩
                    )
                 ·skip
                  first
                   | (exfalso; first | omega | contradiction | (simp at *; done))
                   | (
                    refine SW.exit ?_
                    refine hK12 _ _ _ ?_
                    refine SW.seq_k fun K18 hK18 => ?_
                    refine SW.region _ _ _ _ ?_
                    refine RL.p T ?_
                    refine RL.c fun18 (fun hs => fall bq R room 0 q over _ (by repeat first | exact At.head _ _ | assumption | apply At.tail | apply At.app) L hL hq (fun x hx => (hLo x hx).appr.cons)) ?_
                    rintro _ _ ⟨a1, c1, al1, rfl, hal1, haf1, han1, e⟩; obtain rfl := e.symm
                    refine RL.p T ?_
                    refine RL.nil _ _ _ _ ?_
                    refine hK18 _ _ _ ?_
                    refine SW.seq_k fun K19 hK19 => ?_
                    refine SW.seq_k fun K20 hK20 => ?_
                    refine SW.region _ _ _ _ ?_
                    refine RL.p T ?_
                    refine RL.c fun22 (fun hs => fclear bq R room 0 q over _ (by repeat first | exact At.head _ _ | assumption | apply At.tail | apply At.app) L hL hq (fun x hx => (hLo x hx).appr.cons.app.cons)) ?_
                    rintro _ _ ⟨a2, c2, al2, rfl, hal2, haf2, han2, e⟩; obtain rfl := e.symm
                    refine RL.p T ?_
                    refine RL.c fun17 (fun hs => samesT al2 al1 _ _ _ _ _ _ (Rd.rowh hs (by repeat first | exact At.head _ _ | apply At.tail | apply At.app)) (Rd.rowh hs (by repeat first | exact At.head _ _ | apply At.tail | apply At.app)) hal2.symm hal1.symm (by have := hL.len; omega) (by have := hL.len; omega) (fun x hx => (al_ok hLo haf2 han2 (satl (sat1 hs)) x hx).appr.cons) (fun x hx => (al_ok hLo haf1 han1 (satl (sat1 (satr (sat1 hs)))) x hx).appr.cons.app.cons) (haf2.trans haf1.symm)) ?_
                    rintro _ _ ⟨rfl, e⟩; obtain rfl := e.symm
                    refine RL.p T ?_
                    refine RL.p T ?_
                    refine RL.sp 68 (fun hs3 => ?_) (fun hs3 => ?_)
                    ·skip
                     first
                      | (exfalso; first | omega | contradiction | (simp at *; done))
                      | (
                       refine RL.guard_no rfl rfl rfl ?_
                       refine RL.guard_no rfl rfl rfl ?_
                       refine RL.guard_no rfl rfl rfl ?_
                       refine RL.p T ?_
                       refine RL.p T ?_
                       refine RL.guard_no rfl rfl rfl ?_
                       refine RL.guard_no rfl rfl rfl ?_
                       refine RL.guard_no rfl rfl rfl ?_
                       refine RL.p T ?_
                       refine RL.p T ?_
                       refine RL.guard_no rfl rfl rfl ?_
                       refine RL.guard_no rfl rfl rfl ?_
                       refine RL.guard_no rfl rfl rfl ?_
                       refine RL.guard_no rfl rfl rfl ?_
                       refine RL.p T ?_
                       refine RL.nil _ _ _ _ ?_
                       refine hK20 _ _ _ ?_
                       refine SW.cond_t rfl ?_
                       refine SW.seq_k fun K21 hK21 => ?_
                       refine SW.region _ _ _ _ ?_
                       refine RL.p T ?_
                       refine RL.nil _ _ _ _ ?_
                       refine hK21 _ _ _ ?_
                       refine SW.ret ?_
                       refine retQ.rr (H) ?_
                       clear hK21 K21 hK20 K20 hK19 K19 hK18 K18 hK15 K15 hK14 K14 hK13 K13 hK12 K12 hK7 K7 hK6 K6 hK5 K5 hK4 K4 hK2 K2 hK1 K1 hK0 K0
                       first
                         | exact ⟨rfl, rfl⟩
                         | (refine ⟨boolE ?_, rfl⟩; simp; done)
                       )
                    ·skip
                     first
                      | (exfalso; first | omega | contradiction | (simp at *; done))
                      | (
                       refine RL.p T ?_
                       refine RL.c fun13 (fun hs => flen bq (fun _ => default) room 0 0 0 _ (by repeat first | exact At.head _ _ | assumption | apply At.tail | apply At.app)) ?_
                       rintro _ _ ⟨rfl, e⟩; obtain rfl := e.symm
                       refine RL.p T ?_
                       refine RL.p T ?_
                       refine RL.p T ?_
                       refine RL.sp 73 (fun hs4 => ?_) (fun hs4 => ?_)
                       ·skip
                        first
                         | (exfalso; first | omega | contradiction | (simp at *; done))
                         | (
                          refine RL.guard_no rfl rfl rfl ?_
                          refine RL.guard_no rfl rfl rfl ?_
                          refine RL.guard_no rfl rfl rfl ?_
                          refine RL.p T ?_
                          refine RL.p T ?_
                          refine RL.guard_no rfl rfl rfl ?_
                          refine RL.guard_no rfl rfl rfl ?_
                          refine RL.guard_no rfl rfl rfl ?_
                          refine RL.guard_no rfl rfl rfl ?_
                          refine RL.p T ?_
                          refine RL.nil _ _ _ _ ?_
                          refine hK20 _ _ _ ?_
                          refine SW.cond_t rfl ?_
                          refine SW.seq_k fun K22 hK22 => ?_
                          refine SW.region _ _ _ _ ?_
                          refine RL.p T ?_
                          refine RL.nil _ _ _ _ ?_
                          refine hK22 _ _ _ ?_
                          refine SW.ret ?_
                          refine retQ.rr (H) ?_
                          clear hK22 K22 hK20 K20 hK19 K19 hK18 K18 hK15 K15 hK14 K14 hK13 K13 hK12 K12 hK7 K7 hK6 K6 hK5 K5 hK4 K4 hK2 K2 hK1 K1 hK0 K0
                          first
                            | exact ⟨rfl, rfl⟩
                            | (refine ⟨boolE ?_, rfl⟩; simp; done)
                          )
                       ·skip
                        first
                         | (exfalso; first | omega | contradiction | (simp at *; done))
                         | (
                          refine RL.p T ?_
                          refine RL.c fun14 (fun hs => fover bq (fun _ => default) room 0 0 0 _ (by repeat first | exact At.head _ _ | assumption | apply At.tail | apply At.app)) ?_
                          rintro _ _ ⟨rfl, e⟩; obtain rfl := e.symm
                          refine RL.p T ?_
                          refine RL.p T ?_
                          refine RL.p T ?_
                          refine RL.sp 78 (fun hs5 => ?_) (fun hs5 => ?_)
                          ·skip
                           first
                            | (exfalso; first | omega | contradiction | (simp at *; done))
                            | (
                             refine RL.guard_no rfl rfl rfl ?_
                             refine RL.guard_no rfl rfl rfl ?_
                             refine RL.guard_no rfl rfl rfl ?_
                             refine RL.guard_no rfl rfl rfl ?_
                             refine RL.p T ?_
                             refine RL.nil _ _ _ _ ?_
                             refine hK20 _ _ _ ?_
                             refine SW.cond_t rfl ?_
                             refine SW.seq_k fun K23 hK23 => ?_
                             refine SW.region _ _ _ _ ?_
                             refine RL.p T ?_
                             refine RL.nil _ _ _ _ ?_
                             refine hK23 _ _ _ ?_
                             refine SW.ret ?_
                             refine retQ.rr (H) ?_
                             clear hK23 K23 hK20 K20 hK19 K19 hK18 K18 hK15 K15 hK14 K14 hK13 K13 hK12 K12 hK7 K7 hK6 K6 hK5 K5 hK4 K4 hK2 K2 hK1 K1 hK0 K0
                             first
                               | exact ⟨rfl, rfl⟩
                               | (refine ⟨boolE ?_, rfl⟩; simp; done)
                             )
                          ·skip
                           first
                            | (exfalso; first | omega | contradiction | (simp at *; done))
                            | (
                             refine RL.p T ?_
                             refine RL.c fun18 (fun hs => fall bq (fun _ => default) room 0 0 0 _ (by repeat first | exact At.head _ _ | assumption | apply At.tail | apply At.app) [] (RingIs.nil _) rfl (fun _ h => by cases h)) ?_
                             rintro _ _ ⟨a3, c3, al3, rfl, hal3, haf3, han3, e⟩; obtain rfl := e.symm
                             refine RL.p T ?_
                             refine RL.p T ?_
                             refine RL.p T ?_
                             refine RL.nil _ _ _ _ ?_
                             refine hK20 _ _ _ ?_
                             refine SW.cs (fun hc3 => ?_) (fun hc3 => ?_)
                             ·skip
                              first
                               | (exfalso; first | omega | contradiction | (simp at *; done))
                               | (
                                refine SW.seq_k fun K24 hK24 => ?_
                                refine SW.region _ _ _ _ ?_
                                refine RL.p T ?_
                                refine RL.nil _ _ _ _ ?_
                                refine hK24 _ _ _ ?_
                                refine SW.ret ?_
                                refine retQ.rr (H) ?_
                                clear hK24 K24 hK20 K20 hK19 K19 hK18 K18 hK15 K15 hK14 K14 hK13 K13 hK12 K12 hK7 K7 hK6 K6 hK5 K5 hK4 K4 hK2 K2 hK1 K1 hK0 K0
                                first
                                  | exact ⟨rfl, rfl⟩
                                  | (refine ⟨boolE ?_, rfl⟩; simp; done)
                                )
                             ·skip
                              first
                               | (exfalso; first | omega | contradiction | (simp at *; done))
                               | (
                                refine SW.skip ?_
                                refine hK19 _ _ _ ?_
                                refine SW.seq_k fun K25 hK25 => ?_
                                refine SW.seq_k fun K26 hK26 => ?_
                                refine SW.weaken (fun _ h => satcl h) ?_
                                refine SW.region _ _ _ _ ?_
                                refine RL.p T ?_
                                refine RL.p T ?_
                                refine RL.p T ?_
                                refine RL.nil _ _ _ _ ?_
                                refine hK26 _ _ _ ?_
                                refine SW.block ?_
                                refine SW.loopM (fun frB mm fr ds HH => ∃ (k : Nat) (R S : Nat → Fs) (over q : Nat) (G : List Chunk) (L M : List Fs), mm = nr2 - k ∧ (k ≤ nr2 ∧ RingIs R 0 L ∧ RingIs S 0 M ∧ q = L.length ∧ q = M.length ∧ (∀ x ∈ L, FsOk w0 G x) ∧ (∀ x ∈ M, FsOk w0 G x) ∧ frs L = frs M ∧ over ≤ k) ∧ FrIs [6, 15, 16, 17, 18, 19, 86, 87, 88, 89, 90, 91, 92, 93, 94, 95, 96, 97, 98, 99, 100, 101, 102, 103, 104, 105, 106, 107, 108, 109, 110] frB fr [(86, .int .i64 k)] ∧ ds = [] ∧ HH = (.var bq 57 (FifoC R room ((0 : Nat) : Int) ((q : Nat) : Int) ((over : Nat) : Int)) :: .var bc 57 (FifoC S room ((0 : Nat) : Int) ((q : Nat) : Int) ((over : Nat) : Int)) :: (G ++ H))) (n := nr2 - 0) ?_ ?_
                                ·exact ⟨0, (fun _ => default), (fun _ => default), 0, 0, [], [], [], rfl, ⟨Nat.zero_le _, RingIs.nil _, RingIs.nil _, rfl, rfl, (fun _ h => by cases h), (fun _ h => by cases h), rfl, Nat.le_refl _⟩, (.consI rfl (by first | omega | rfl) (.nil (by repeat first | exact Mx.refl | exact Mx.mix | refine Mx.put rfl ?_ | refine Mx.upd rfl ?_ | refine Mx.updl rfl ?_ | refine Mx.fin rfl ?_ | refine Mx.inner rfl ?_ | refine Mx.none ?_))), rfl, rfl⟩
                                ·rintro mm fr ds HH ⟨k, R, S, over, q, G, L, M, rfl, ⟨hk2, hL2, hM2, hq2, hp2, hLo2, hMo2, hlm, hov2⟩, hFr, rfl, eHH⟩
                                 obtain rfl := eHH.symm
                                 obtain ⟨frU, rfl⟩ := hFr.eq
                                 clear hFr
                                 have hx : ∀ {H : List Chunk}, FsOk w0 H (ls2.getD k default) := fun {H} => getD_mem FsOk.dflt (hls2 H) k
                                 have hx0 := @hx []
                                 refine SW.seq_k fun K27 hK27 => ?_
                                 refine SW.region _ _ _ _ ?_
                                 refine RL.p T ?_
                                 refine RL.nil _ _ _ _ ?_
                                 refine hK27 _ _ _ ?_
                                 refine SW.seq_k fun K28 hK28 => ?_
                                 refine SW.cs (fun hc4 => ?_) (fun hc4 => ?_)
                                 ·skip
                                  first
                                   | (exfalso; first | omega | contradiction | (simp at *; done))
                                   | (
                                    refine SW.skip ?_
                                    refine hK28 _ _ _ ?_
                                    refine SW.seq_k fun K29 hK29 => ?_
                                    refine SW.block ?_
                                    refine SW.seq_k fun K30 hK30 => ?_
                                    refine SW.region _ _ _ _ ?_
                                    refine RL.ix T ?_ (hR := fun hs => (by first | exact hB1 _ | exact hB2 _))
                                    refine RL.leN T ?_ (hR := fun hs => (by first | exact hB1 _ | exact hB2 _)) (hvs := (by exact (rfl : _ = [_, _, _, _, _, _, _, _, _, _, _])))
                                    refine RL.s ?_
                                    refine NV.alloc T rfl rfl rfl (by exact (rfl : _ = [_, _, _, _, _, _, _, _, _, _, _])) ?_
                                    intro b15_1
                                    refine RL.s ?_
                                    refine NV.sN T rfl rfl rfl (by exact (rfl : _ = [_, _, _, _, _, _, _, _, _, _, _])) (by exact (rfl : _ = [_, _, _, _, _, _, _, _, _, _, _])) ?_
                                    refine RL.nil _ _ _ _ ?_
                                    refine hK30 _ _ _ ?_
                                    refine SW.seq_k fun K31 hK31 => ?_
                                    refine SW.region _ _ _ _ ?_
                                    refine RL.p T ?_
                                    refine RL.q (QV.vN T rfl rfl rfl rfl rfl (by exact (rfl : _ = [_, _, _, _, _, _, _, _, _, _, _]))) ?_
                                    refine RL.c fun11 (fun hs => pushU bq R room 0 q over _ (by repeat first | exact At.head _ _ | assumption | apply At.tail | apply At.app) L hL2 hq2 hr (by omega) (ls2.getD k default) hx) ?_
                                    rintro _ _ ⟨D3, R3, n3, o3, L3, rfl, e, hL3, hn3, hf3, ho3, hg3⟩; obtain rfl := e.symm
                                    have hpo := pushO_or room q over (ls2.getD k default).f
                                    rw [← ho3] at hpo
                                    refine RL.p T ?_
                                    refine RL.p T ?_
                                    refine RL.p T ?_
                                    refine RL.p T ?_
                                    refine RL.p T ?_
                                    refine RL.nil _ _ _ _ ?_
                                    refine hK31 _ _ _ ?_
                                    refine SW.seq_k fun K32 hK32 => ?_
                                    refine SW.region _ _ _ _ ?_
                                    refine RL.p T ?_
                                    refine RL.q (QV.vN T rfl rfl rfl rfl rfl (by exact (rfl : _ = [_, _, _, _, _, _, _, _, _, _, _]))) ?_
                                    refine RL.c fun11 (fun hs => pushU bc S room 0 q over _ (by repeat first | exact At.head _ _ | assumption | apply At.tail | apply At.app) M hM2 hp2 hr (by omega) (ls2.getD k default) hx) ?_
                                    rintro _ _ ⟨D4, R4, n4, o4, L4, rfl, e, hL4, hn4, hf4, ho4, hg4⟩; obtain rfl := e.symm
                                    obtain rfl : o4 = o3 := ho4.trans ho3.symm
                                    obtain rfl : n4 = n3 := by rw [hn4, hn3, ← frs_len, ← frs_len, hf4, hf3, hlm]
                                    refine RL.p T ?_
                                    refine RL.p T ?_
                                    refine RL.p T ?_
                                    refine RL.p T ?_
                                    refine RL.p T ?_
                                    refine RL.nil _ _ _ _ ?_
                                    refine hK32 _ _ _ ?_
                                    refine SW.seq_k fun K33 hK33 => ?_
                                    refine SW.region _ _ _ _ ?_
                                    refine RL.p T ?_
                                    refine RL.p T ?_
                                    refine RL.p T ?_
                                    refine RL.p T ?_
                                    refine RL.sp 105 (fun hs6 => ?_) (fun hs6 => ?_)
                                    ·skip
                                     first
                                      | (exfalso; first | omega | contradiction | (simp at *; done))
                                      | (
                                       refine RL.guard_no rfl rfl rfl ?_
                                       refine RL.guard_no rfl rfl rfl ?_
                                       refine RL.guard_no rfl rfl rfl ?_
                                       refine RL.p T ?_
                                       refine RL.nil _ _ _ _ ?_
                                       refine hK33 _ _ _ ?_
                                       refine SW.cond_t rfl ?_
                                       refine SW.seq_k fun K34 hK34 => ?_
                                       refine SW.region _ _ _ _ ?_
                                       refine RL.p T ?_
                                       refine RL.nil _ _ _ _ ?_
                                       refine hK34 _ _ _ ?_
                                       refine SW.ret ?_
                                       refine retQ.rr (H) ?_
                                       clear hK34 K34 hK33 K33 hK32 K32 hK31 K31 hK30 K30 hK29 K29 hK28 K28 hK27 K27 hK26 K26 hK25 K25 hK20 K20 hK19 K19 hK18 K18 hK15 K15 hK14 K14 hK13 K13 hK12 K12 hK7 K7 hK6 K6 hK5 K5 hK4 K4 hK2 K2 hK1 K1 hK0 K0
                                       first
                                         | exact ⟨rfl, rfl⟩
                                         | (refine ⟨boolE ?_, rfl⟩; simp; done)
                                       )
                                    ·skip
                                     first
                                      | (exfalso; first | omega | contradiction | (simp at *; done))
                                      | (
                                       refine RL.p T ?_
                                       refine RL.p T ?_
                                       refine RL.p T ?_
                                       refine RL.p T ?_
                                       refine RL.nil _ _ _ _ ?_
                                       refine hK33 _ _ _ ?_
                                       refine SW.cs (fun hc5 => ?_) (fun hc5 => ?_)
                                       ·skip
                                        first
                                         | (exfalso; first | omega | contradiction | (simp at *; done))
                                         | (
                                          refine SW.seq_k fun K35 hK35 => ?_
                                          refine SW.region _ _ _ _ ?_
                                          refine RL.p T ?_
                                          refine RL.nil _ _ _ _ ?_
                                          refine hK35 _ _ _ ?_
                                          refine SW.ret ?_
                                          refine retQ.rr (H) ?_
                                          clear hK35 K35 hK33 K33 hK32 K32 hK31 K31 hK30 K30 hK29 K29 hK28 K28 hK27 K27 hK26 K26 hK25 K25 hK20 K20 hK19 K19 hK18 K18 hK15 K15 hK14 K14 hK13 K13 hK12 K12 hK7 K7 hK6 K6 hK5 K5 hK4 K4 hK2 K2 hK1 K1 hK0 K0
                                          first
                                            | exact ⟨rfl, rfl⟩
                                            | (refine ⟨boolE ?_, rfl⟩; simp; done)
                                          )
                                       ·skip
                                        first
                                         | (exfalso; first | omega | contradiction | (simp at *; done))
                                         | (
                                          refine SW.skip ?_
                                          refine hK29 _ _ _ ?_
                                          refine SW.weaken (fun _ h => satmv2 h) ?_
                                          refine SW.region _ _ _ _ ?_
                                          first | refine RL.ar ?_ | refine RL.p T ?_
                                          refine RL.p T ?_
                                          refine RL.nil _ _ _ _ ?_
                                          exact ⟨nr2 - (k + 1), (by omega), k + 1, R3, R4, o4, n4, D4 ++ (D3 ++ G), L3, L4, (by rfl), ⟨by omega, hL3, hL4, hn3, hn4, (fun x hx => (okmix hLo2 hg3 x hx).app), (fun x hx => okmix (fun y hy => (hMo2 y hy).app) hg4 x hx), hf3.trans (by rw [hf4, hlm]), by omega⟩, (.consI rfl (by first | omega | rfl) (.nil (by repeat first | exact Mx.refl | exact Mx.mix | refine Mx.put rfl ?_ | refine Mx.upd rfl ?_ | refine Mx.updl rfl ?_ | refine Mx.fin rfl ?_ | refine Mx.inner rfl ?_ | refine Mx.none ?_))), rfl, rfl⟩
                                          )
                                       )
                                    )
                                 ·skip
                                  first
                                   | (exfalso; first | omega | contradiction | (simp at *; done))
                                   | (
                                    refine SW.exit ?_
                                    refine hK25 _ _ _ ?_
                                    refine SW.seq_k fun K36 hK36 => ?_
                                    obtain rfl : nr2 = k := by omega
                                    refine SW.region _ _ _ _ ?_
                                    refine RL.p T ?_
                                    refine RL.c fun18 (fun hs => fall bq R room 0 q over _ (by repeat first | exact At.head _ _ | assumption | apply At.tail | apply At.app) L hL2 hq2 (fun x hx => (hLo2 x hx).appr.cons.cons)) ?_
                                    rintro _ _ ⟨a5, c5, al5, rfl, hal5, haf5, han5, e⟩; obtain rfl := e.symm
                                    refine RL.p T ?_
                                    refine RL.c fun18 (fun hs => fall bc S room 0 q over _ (by repeat first | exact At.head _ _ | assumption | apply At.tail | apply At.app) M hM2 hp2 (fun x hx => (hMo2 x hx).appr.cons.cons.app.cons)) ?_
                                    rintro _ _ ⟨a6, c6, al6, rfl, hal6, haf6, han6, e⟩; obtain rfl := e.symm
                                    refine RL.c fun17 (fun hs => samesT al5 al6 _ _ _ _ _ _ (Rd.rowh hs (by repeat first | exact At.head _ _ | apply At.tail | apply At.app)) (Rd.rowh hs (by repeat first | exact At.head _ _ | apply At.tail | apply At.app)) hal5.symm hal6.symm (by have := hL2.len; omega) (by have := hL2.len; omega) (fun x hx => (al_ok hLo2 haf5 han5 (satl (sat1 (satr (sat1 hs)))) x hx).appr.cons.app.cons) (fun x hx => (al_ok hMo2 haf6 han6 (satl (sat1 hs)) x hx).appr.cons) (haf5.trans (hlm.trans haf6.symm))) ?_
                                    rintro _ _ ⟨rfl, e⟩; obtain rfl := e.symm
                                    refine RL.p T ?_
                                    refine RL.sp 116 (fun hs7 => ?_) (fun hs7 => ?_)
                                    ·skip
                                     first
                                      | (exfalso; first | omega | contradiction | (simp at *; done))
                                      | (
                                       refine RL.p T ?_
                                       refine RL.c fun14 (fun hs => fover bq R room 0 q over _ (by repeat first | exact At.head _ _ | assumption | apply At.tail | apply At.app)) ?_
                                       rintro _ _ ⟨rfl, e⟩; obtain rfl := e.symm
                                       refine RL.p T ?_
                                       refine RL.c fun14 (fun hs => fover bc S room 0 q over _ (by repeat first | exact At.head _ _ | assumption | apply At.tail | apply At.app)) ?_
                                       rintro _ _ ⟨rfl, e⟩; obtain rfl := e.symm
                                       refine RL.p T ?_
                                       refine RL.p T ?_
                                       refine RL.p T ?_
                                       refine RL.nil _ _ _ _ ?_
                                       refine hK36 _ _ _ ?_
                                       refine SW.ret ?_
                                       refine retQ.rr (H) ?_
                                       clear hK36 K36 hK28 K28 hK27 K27 hK26 K26 hK25 K25 hK20 K20 hK19 K19 hK18 K18 hK15 K15 hK14 K14 hK13 K13 hK12 K12 hK7 K7 hK6 K6 hK5 K5 hK4 K4 hK2 K2 hK1 K1 hK0 K0
                                       first
                                         | exact ⟨rfl, rfl⟩
                                         | (refine ⟨boolE ?_, rfl⟩; simp; done)
                                       )
                                    ·skip
                                     first
                                      | (exfalso; first | omega | contradiction | (simp at *; done))
                                      | (
                                       refine RL.guard_no rfl rfl rfl ?_
                                       refine RL.guard_no rfl rfl rfl ?_
                                       refine RL.guard_no rfl rfl rfl ?_
                                       refine RL.guard_no rfl rfl rfl ?_
                                       refine RL.guard_no rfl rfl rfl ?_
                                       refine RL.p T ?_
                                       refine RL.p T ?_
                                       refine RL.nil _ _ _ _ ?_
                                       refine hK36 _ _ _ ?_
                                       refine SW.ret ?_
                                       refine retQ.rr (H) ?_
                                       clear hK36 K36 hK28 K28 hK27 K27 hK26 K26 hK25 K25 hK20 K20 hK19 K19 hK18 K18 hK15 K15 hK14 K14 hK13 K13 hK12 K12 hK7 K7 hK6 K6 hK5 K5 hK4 K4 hK2 K2 hK1 K1 hK0 K0
                                       first
                                         | exact ⟨rfl, rfl⟩
                                         | (refine ⟨boolE ?_, rfl⟩; simp; done)
                                       )
                                    )
                                )
                             )
                          )
                       )
                    )
                )
             )
          )
       )
    )
theorem fifoClears_bad {w0 : World} {H : List Chunk} (room : Int) (hr : room < 0 ∨ 64 < room) (sr1 : Option Addr) (nr1 cr1 : Nat) (sr2 : Option Addr) (nr2 cr2 : Nat) : SC Try.prog w0 8 #[.int .i64 room, .slice sr1 nr1 cr1, .slice sr2 nr2 cr2] H (fun v H' => v = .bool true ∧ H' = H) := by
 refine SC.enter Try.func8 rfl (Nat.le_of_ble_eq_true rfl) ?_
 refine SW.seq_k fun K0 hK0 => ?_
 refine SW.region _ _ _ _ ?_
 refine RL.p T ?_
 refine RL.nil _ _ _ _ ?_
 refine hK0 _ _ _ ?_
 refine SW.seq_k fun K1 hK1 => ?_
 refine SW.seq_k fun K2 hK2 => ?_
 refine SW.region _ _ _ _ ?_
 refine RL.c fun9 (fun hs => alive) ?_
 rintro _ _ ⟨rfl, e⟩; obtain rfl := e.symm
 refine RL.p T ?_
 refine RL.nil _ _ _ _ ?_
 refine hK2 _ _ _ ?_
 refine SW.cs (fun hc0 => ?_) (fun hc0 => ?_)
 ·skip
  first
   | (exfalso; first | omega | contradiction | (simp at *; done))
   | (
    refine SW.seq_k fun K3 hK3 => ?_
    refine SW.region _ _ _ _ ?_
    refine RL.p T ?_
    refine RL.nil _ _ _ _ ?_
    refine hK3 _ _ _ ?_
    refine SW.ret ?_
    refine retQ.rr (H) ?_
    clear hK3 K3 hK2 K2 hK1 K1 hK0 K0
    exact ⟨rfl, rfl⟩
    )
 ·skip
  first
   | (exfalso; first | omega | contradiction | (simp at *; done))
   | (
    refine SW.skip ?_
    refine hK1 _ _ _ ?_
    refine SW.seq_k fun K4 hK4 => ?_
    refine SW.region _ _ _ _ ?_
    refine RL.p T ?_
    refine RL.c fun10 (fun hs => fnew_bad room hr) ?_
    rintro _ _ ⟨rfl, e⟩; obtain rfl := e.symm
    refine RL.p T ?_
    refine RL.p T ?_
    refine RL.p T ?_
    refine RL.p T ?_
    refine RL.p T ?_
    refine RL.nil _ _ _ _ ?_
    refine hK4 _ _ _ ?_
    refine SW.seq_k fun K5 hK5 => ?_
    refine SW.region _ _ _ _ ?_
    refine RL.p T ?_
    refine RL.c fun10 (fun hs => fnew_bad room hr) ?_
    rintro _ _ ⟨rfl, e⟩; obtain rfl := e.symm
    refine RL.p T ?_
    refine RL.p T ?_
    refine RL.p T ?_
    refine RL.p T ?_
    refine RL.p T ?_
    refine RL.nil _ _ _ _ ?_
    refine hK5 _ _ _ ?_
    refine SW.seq_k fun K6 hK6 => ?_
    refine SW.seq_k fun K7 hK7 => ?_
    refine SW.region _ _ _ _ ?_
    refine RL.p T ?_
    refine RL.p T ?_
    refine RL.p T ?_
    refine RL.sp 34 (fun hs0 => ?_) (fun hs0 => ?_)
    ·skip
     first
      | (exfalso; first | omega | contradiction | (simp at *; done))
      | (
       refine RL.guard_no rfl rfl rfl ?_
       refine RL.guard_no rfl rfl rfl ?_
       refine RL.p T ?_
       refine RL.p T ?_
       refine RL.guard_no rfl rfl rfl ?_
       refine RL.guard_no rfl rfl rfl ?_
       refine RL.guard_no rfl rfl rfl ?_
       refine RL.p T ?_
       refine RL.p T ?_
       refine RL.guard_no rfl rfl rfl ?_
       refine RL.guard_no rfl rfl rfl ?_
       refine RL.guard_no rfl rfl rfl ?_
       refine RL.p T ?_
       refine RL.nil _ _ _ _ ?_
       refine hK7 _ _ _ ?_
       refine SW.cond_t rfl ?_
       refine SW.seq_k fun K8 hK8 => ?_
       refine SW.region _ _ _ _ ?_
       refine RL.p T ?_
       refine RL.p T ?_
       refine RL.p T ?_
       refine RL.p T ?_
       refine RL.nil _ _ _ _ ?_
       refine hK8 _ _ _ ?_
       refine SW.ret ?_
       refine retQ.rr (H) ?_
       clear hK8 K8 hK7 K7 hK6 K6 hK5 K5 hK4 K4 hK2 K2 hK1 K1 hK0 K0
       exact ⟨rfl, rfl⟩
       )
    ·skip
     first
      | (exfalso; first | omega | contradiction | (simp at *; done))
      | (
       refine RL.p T ?_
       refine RL.p T ?_
       refine RL.p T ?_
       refine RL.p T ?_
       refine RL.sp 38 (fun hs1 => ?_) (fun hs1 => ?_)
       ·skip
        first
         | (exfalso; first | omega | contradiction | (simp at *; done))
         | (
          refine RL.guard_no rfl rfl rfl ?_
          refine RL.guard_no rfl rfl rfl ?_
          refine RL.guard_no rfl rfl rfl ?_
          refine RL.p T ?_
          refine RL.p T ?_
          refine RL.guard_no rfl rfl rfl ?_
          refine RL.guard_no rfl rfl rfl ?_
          refine RL.guard_no rfl rfl rfl ?_
          refine RL.p T ?_
          refine RL.nil _ _ _ _ ?_
          refine hK7 _ _ _ ?_
          refine SW.cond_t rfl ?_
          refine SW.seq_k fun K9 hK9 => ?_
          refine SW.region _ _ _ _ ?_
          refine RL.p T ?_
          refine RL.p T ?_
          refine RL.p T ?_
          refine RL.p T ?_
          refine RL.nil _ _ _ _ ?_
          refine hK9 _ _ _ ?_
          refine SW.ret ?_
          refine retQ.rr (H) ?_
          clear hK9 K9 hK7 K7 hK6 K6 hK5 K5 hK4 K4 hK2 K2 hK1 K1 hK0 K0
          exact ⟨rfl, rfl⟩
          )
       ·skip
        first
         | (exfalso; first | omega | contradiction | (simp at *; done))
         | (
          refine RL.p T ?_
          refine RL.p T ?_
          refine RL.p T ?_
          refine RL.p T ?_
          refine RL.p T ?_
          refine RL.sp 43 (fun hs2 => ?_) (fun hs2 => ?_)
          ·skip
           first
            | (exfalso; first | omega | contradiction | (simp at *; done))
            | (
             refine RL.guard_no rfl rfl rfl ?_
             refine RL.guard_no rfl rfl rfl ?_
             refine RL.guard_no rfl rfl rfl ?_
             refine RL.p T ?_
             refine RL.nil _ _ _ _ ?_
             refine hK7 _ _ _ ?_
             refine SW.cond_t rfl ?_
             refine SW.seq_k fun K10 hK10 => ?_
             refine SW.region _ _ _ _ ?_
             refine RL.p T ?_
             refine RL.p T ?_
             refine RL.p T ?_
             refine RL.p T ?_
             refine RL.nil _ _ _ _ ?_
             refine hK10 _ _ _ ?_
             refine SW.ret ?_
             refine retQ.rr (H) ?_
             clear hK10 K10 hK7 K7 hK6 K6 hK5 K5 hK4 K4 hK2 K2 hK1 K1 hK0 K0
             exact ⟨rfl, rfl⟩
             )
          ·skip
           first
            | (exfalso; first | omega | contradiction | (simp at *; done))
            | (
             refine RL.p T ?_
             refine RL.p T ?_
             refine RL.p T ?_
             refine RL.p T ?_
             refine RL.nil _ _ _ _ ?_
             refine hK7 _ _ _ ?_
             refine SW.cs (fun hc1 => ?_) (fun hc1 => ?_)
             ·skip
              first
               | (exfalso; first | omega | contradiction | (simp at *; done))
               | (
                refine SW.seq_k fun K11 hK11 => ?_
                refine SW.region _ _ _ _ ?_
                refine RL.p T ?_
                refine RL.p T ?_
                refine RL.p T ?_
                refine RL.p T ?_
                refine RL.nil _ _ _ _ ?_
                refine hK11 _ _ _ ?_
                refine SW.ret ?_
                refine retQ.rr (H) ?_
                clear hK11 K11 hK7 K7 hK6 K6 hK5 K5 hK4 K4 hK2 K2 hK1 K1 hK0 K0
                exact ⟨rfl, rfl⟩
                )
             ·skip
              exfalso; first | omega | contradiction | (simp at *; done)
             )
          )
       )
    )
theorem fifoClearsI {w0 : World} {H : List Chunk} (room : Int) (ls1 : List Fs) (sr1 : Option Addr) (nr1 cr1 : Nat) (hB1 : ∀ H, Rd w0 H sr1 nr1 cr1 11 (ls1.flatMap FsC)) (hnr1 : nr1 = ls1.length) (hmr1 : nr1 ≤ 4398046511000) (hls1 : ∀ H, ∀ x ∈ ls1, FsOk w0 H x) (ls2 : List Fs) (sr2 : Option Addr) (nr2 cr2 : Nat) (hB2 : ∀ H, Rd w0 H sr2 nr2 cr2 11 (ls2.flatMap FsC)) (hnr2 : nr2 = ls2.length) (hmr2 : nr2 ≤ 4398046511000) (hls2 : ∀ H, ∀ x ∈ ls2, FsOk w0 H x) : SC Try.prog w0 8 #[.int .i64 room, .slice sr1 nr1 cr1, .slice sr2 nr2 cr2] H (fun v H' => v = .bool true ∧ H' = H) := by
  by_cases h : room < 0 ∨ 64 < room
  · exact fifoClears_bad room h sr1 nr1 cr1 sr2 nr2 cr2
  · obtain ⟨q, rfl⟩ := Int.eq_ofNat_of_zero_le (by omega : 0 ≤ room)
    exact fifoClears q (by omega) ls1 sr1 nr1 cr1 hB1 hnr1 hmr1 hls1 ls2 sr2 nr2 cr2 hB2 hnr2 hmr2 hls2
end Go.Proofs.Ytojghialjpianaa.M
