import Derived.Test.YtojghialjpianaaProg
import Derived.Test.YtojghialjpianaaFD16
import Derived.Test.YtojghialjpianaaP16d
set_option linter.unusedVariables false
set_option linter.unusedSimpArgs false
namespace Go.Proofs.Ytojghialjpianaa.M
open Go Go.Sep Go.Proofs
set_option maxRecDepth 10000
set_option maxHeartbeats 2000000
theorem samesT {w0 : World} {H : List Chunk} (ps qs : List Fs) (sa sb : Option Addr) (n c m d : Nat) (hR : Rd w0 H sa n c 11 (ps.flatMap FsC)) (hS : Rd w0 H sb m d 11 (qs.flatMap FsC)) (hn : n = ps.length) (hm : m = qs.length) (hn2 : n ≤ 4398046511104) (hm2 : m ≤ 4398046511104) (hA : ∀ x ∈ ps, FsOk w0 H x) (hB : ∀ x ∈ qs, FsOk w0 H x) (he : frs ps = frs qs) : SC Try.prog w0 17 #[.slice sa n c, .slice sb m d] H (fun v H' => v = .bool true ∧ H' = H) := by
  have h := sames ps qs sa sb n c m d hR hS hn hm hn2 hm2 hA hB
  rw [decide_eq_true he] at h
  exact h
theorem fifoOwn {w0 : World} {H : List Chunk} (x : Fs) (hx : ∀ H, FsOk w0 H x) : SC Try.prog w0 7 #[FsA x] H (fun v H' => v = .bool true ∧ H' = H) := by
 refine SC.enter Try.func7 rfl (Nat.le_of_ble_eq_true rfl) ?_
 refine SW.seq_k fun K0 hK0 => ?_
 have hx0 := hx []
 have hxl := hx0.len
 refine SW.region _ _ _ _ ?_
 refine RL.s ?_
 refine NV.box rfl (by exact (rfl : _ = [_, _, _, _, _, _, _, _, _, _, _])) ?_
 intro b1_0
 refine RL.p T ?_
 refine RL.nil _ _ _ _ ?_
 refine hK0 _ _ _ ?_
 refine SW.seq_k fun K1 hK1 => ?_
 refine SW.seq_k fun K2 hK2 => ?_
 refine SW.region _ _ _ _ ?_
 refine RL.c fun9 (fun hs => alive) ?_
 rintro _ _ ⟨rfl, e⟩; obtain rfl := e.symm
 refine RL.p T ?_
 refine RL.nil _ _ _ _ ?_
 refine hK2 _ _ _ ?_
 refine SW.cs (fun hc0 => ?_) (fun hc0 => ?_)
 ·skip
  first
   | (exfalso; first | omega | contradiction | (simp at *; done))
   | (
    refine SW.seq_k fun K3 hK3 => ?_
    refine SW.region _ _ _ _ ?_
    refine RL.p T ?_
    refine RL.nil _ _ _ _ ?_
    refine hK3 _ _ _ ?_
    refine SW.ret ?_
    refine retQ.rr (H) ?_
    clear hK3 K3 hK2 K2 hK1 K1 hK0 K0
    first
      | exact ⟨rfl, rfl⟩
      | (refine ⟨boolE ?_, rfl⟩; simp; done)
    )
 ·skip
  first
   | (exfalso; first | omega | contradiction | (simp at *; done))
   | (
    refine SW.skip ?_
    refine hK1 _ _ _ ?_
    refine SW.seq_k fun K4 hK4 => ?_
    refine SW.seq_k fun K5 hK5 => ?_
    refine SW.region _ _ _ _ ?_
    refine RL.p T ?_
    refine RL.lv1 T ?_
    refine RL.p T ?_
    refine RL.p T ?_
    refine RL.p T ?_
    refine RL.sp 19 (fun hs0 => ?_) (fun hs0 => ?_)
    ·skip
     first
      | (exfalso; first | omega | contradiction | (simp at *; done))
      | (
       refine RL.guard_no rfl rfl rfl ?_
       refine RL.guard_no rfl rfl rfl ?_
       refine RL.guard_no rfl rfl rfl ?_
       refine RL.p T ?_
       refine RL.nil _ _ _ _ ?_
       refine hK5 _ _ _ ?_
       refine SW.cond_t rfl ?_
       refine SW.seq_k fun K6 hK6 => ?_
       refine SW.region _ _ _ _ ?_
       refine RL.p T ?_
       refine RL.nil _ _ _ _ ?_
       refine hK6 _ _ _ ?_
       refine SW.ret ?_
       refine retQ.rr (H) ?_
       clear hK6 K6 hK5 K5 hK4 K4 hK2 K2 hK1 K1 hK0 K0
       first
         | exact ⟨rfl, rfl⟩
         | (refine ⟨boolE ?_, rfl⟩; simp; done)
       )
    ·skip
     first
      | (exfalso; first | omega | contradiction | (simp at *; done))
      | (
       refine RL.q (QV.vN T rfl rfl rfl rfl rfl (by exact (rfl : _ = [_, _, _, _, _, _, _, _, _, _, _]))) ?_
       refine RL.c fun12 (fun hs => fcheck x.f x.a x.n x.c (hx _).rd hx0.len hx0.max hx0.ok) ?_
       rintro _ _ ⟨rfl, e⟩; obtain rfl := e.symm
       refine RL.p T ?_
       refine RL.p T ?_
       refine RL.nil _ _ _ _ ?_
       refine hK5 _ _ _ ?_
       refine SW.cs (fun hc1 => ?_) (fun hc1 => ?_)
       ·skip
        first
         | (exfalso; first | omega | contradiction | (simp at *; done))
         | (
          refine SW.seq_k fun K7 hK7 => ?_
          refine SW.region _ _ _ _ ?_
          refine RL.p T ?_
          refine RL.nil _ _ _ _ ?_
          refine hK7 _ _ _ ?_
          refine SW.ret ?_
          refine retQ.rr (H) ?_
          clear hK7 K7 hK5 K5 hK4 K4 hK2 K2 hK1 K1 hK0 K0
          first
            | exact ⟨rfl, rfl⟩
            | (refine ⟨boolE ?_, rfl⟩; simp; done)
          )
       ·skip
        first
         | (exfalso; first | omega | contradiction | (simp at *; done))
         | (
          refine SW.skip ?_
          refine hK4 _ _ _ ?_
          refine SW.seq_k fun K8 hK8 => ?_
          have hc0 : chkF x.f = 0 := by omega
          refine SW.region _ _ _ _ ?_
          refine RL.c fun10 (fun hs => fnew 3 (by omega)) ?_
          rintro _ _ ⟨bq, rfl, e⟩; obtain rfl := e.symm
          refine RL.p T ?_
          refine RL.p T ?_
          refine RL.p T ?_
          refine RL.p T ?_
          refine RL.p T ?_
          refine RL.nil _ _ _ _ ?_
          refine hK8 _ _ _ ?_
          refine SW.seq_k fun K9 hK9 => ?_
          refine SW.region _ _ _ _ ?_
          refine RL.q (QV.vN T rfl rfl rfl rfl rfl (by exact (rfl : _ = [_, _, _, _, _, _, _, _, _, _, _]))) ?_
          refine RL.c fun24 (fun hs => fcopy x.f x.a x.n x.c (hx _).rd hx0.len hx0.max hx0.ok) ?_
          rintro _ _ ⟨a0, c0, rfl, e⟩; obtain rfl := e.symm
          refine RL.s ?_
          refine NV.alloc T rfl rfl rfl (by exact (rfl : _ = [_, _, _, _, _, _, _, _, _, _, _])) ?_
          intro b5_1
          refine RL.s ?_
          refine NV.sN T rfl rfl rfl (by exact (rfl : _ = [_, _, _, _, _, _, _, _, _, _, _])) (by exact (rfl : _ = [_, _, _, _, _, _, _, _, _, _, _])) ?_
          refine RL.nil _ _ _ _ ?_
          refine hK9 _ _ _ ?_
          refine SW.seq_k fun K10 hK10 => ?_
          refine SW.region _ _ _ _ ?_
          refine RL.p T ?_
          refine RL.q (QV.vN T rfl rfl rfl rfl rfl (by exact (rfl : _ = [_, _, _, _, _, _, _, _, _, _, _]))) ?_
          refine RL.c fun11 (fun hs => pushU bq _ 3 0 0 0 _ (by repeat first | exact At.head _ _ | assumption | apply At.tail | apply At.app) [] (RingIs.nil _) rfl (by omega) (by omega) ⟨x.f, a0, x.f.data.length, c0⟩ ⟨rfl, (by rw [← hx0.len]; exact hx0.max), hx0.ok, (Rd.rowh hs (by repeat first | exact At.head _ _ | apply At.tail | apply At.app))⟩) ?_
          rintro _ _ ⟨D1, R1, n1, o1, L1, rfl, e, hL1, hn1, hf1, ho1, hg1⟩; obtain rfl := e.symm
          have h1 : frs L1 = [x.f] := push_gd hf1 hc0 (by simp [frs])
          obtain rfl : n1 = 1 := by rw [hn1, ← frs_len, h1]; rfl
          obtain rfl : o1 = 0 := by rw [ho1, pushO, if_neg (by omega)]
          refine RL.nil _ _ _ _ ?_
          refine hK10 _ _ _ ?_
          refine SW.seq_k fun K11 hK11 => ?_
          refine SW.region _ _ _ _ ?_
          refine RL.p T ?_
          refine RL.q (QV.vN T rfl rfl rfl rfl rfl (by exact (rfl : _ = [_, _, _, _, _, _, _, _, _, _, _]))) ?_
          refine RL.c fun11 (fun hs => pushU bq R1 3 0 1 0 _ (by repeat first | exact At.head _ _ | assumption | apply At.tail | apply At.app) L1 hL1 hn1 (by omega) (by omega) ⟨x.f, a0, x.f.data.length, c0⟩ ⟨rfl, (by rw [← hx0.len]; exact hx0.max), hx0.ok, (Rd.rowh hs (by repeat first | exact At.head _ _ | apply At.tail | apply At.app))⟩) ?_
          rintro _ _ ⟨D2, R2, n2, o2, L2, rfl, e, hL2, hn2, hf2, ho2, hg2⟩; obtain rfl := e.symm
          have h2 : frs L2 = [x.f, x.f] := by rw [push_gd hf2 hc0 (by rw [h1]; simp), h1]; rfl
          obtain rfl : n2 = 2 := by rw [hn2, ← frs_len, h2]; rfl
          obtain rfl : o2 = 0 := by rw [ho2, pushO, if_neg (by omega)]
          refine RL.nil _ _ _ _ ?_
          refine hK11 _ _ _ ?_
          refine SW.seq_k fun K12 hK12 => ?_
          refine SW.seq_k fun K13 hK13 => ?_
          refine SW.region _ _ _ _ ?_
          refine RL.p T ?_
          refine RL.lv1 T ?_
          refine RL.p T ?_
          refine RL.p T ?_
          refine RL.nil _ _ _ _ ?_
          refine hK13 _ _ _ ?_
          refine SW.block ?_
          refine SW.loopM (fun frB mm fr ds HH => ∃ (k : Nat) , mm = x.f.data.length - k ∧ (k ≤ x.f.data.length ∧ (True)) ∧ FrIs [6, 39, 40, 41, 42, 43, 44, 45, 46, 47, 48, 49] frB fr [(39, .int .i64 k)] ∧ ds = [] ∧ HH = (D2 ++ (D1 ++ (.var b5_1 31 (FC x.f a0 x.f.data.length c0) :: .row a0 x.f.data.length c0 5 1 (((x.f.data.take k).map inc ++ x.f.data.drop k).map (.int .u8)) :: .var bq 57 (FifoC R2 ((3 : Nat) : Int) ((0 : Nat) : Int) ((2 : Nat) : Int) ((0 : Nat) : Int)) :: .var b1_0 31 (FsC x) :: H)))) (n := x.f.data.length - 0) ?_ ?_
          ·exact ⟨0, rfl, ⟨Nat.zero_le _, trivial⟩, (.cons rfl (.nil (by repeat first | exact Mx.refl | exact Mx.mix | refine Mx.put rfl ?_ | refine Mx.upd rfl ?_ | refine Mx.updl rfl ?_ | refine Mx.fin rfl ?_ | refine Mx.inner rfl ?_ | refine Mx.none ?_))), rfl, (by simp; try rfl)⟩
          ·rintro mm fr ds HH ⟨k, rfl, ⟨hk, _⟩, hFr, rfl, eHH⟩
           obtain rfl := eHH.symm
           obtain ⟨frU, rfl⟩ := hFr.eq
           clear hFr
           have hkl : ((x.f.data.take k).map inc ++ x.f.data.drop k).length = x.f.data.length := by simp [List.length_take]; omega
           refine SW.seq_k fun K14 hK14 => ?_
           refine SW.region _ _ _ _ ?_
           refine RL.p T ?_
           refine RL.nil _ _ _ _ ?_
           refine hK14 _ _ _ ?_
           refine SW.seq_k fun K15 hK15 => ?_
           refine SW.cs (fun hc2 => ?_) (fun hc2 => ?_)
           ·skip
            first
             | (exfalso; first | omega | contradiction | (simp at *; done))
             | (
              refine SW.skip ?_
              refine hK15 _ _ _ ?_
              refine SW.seq_k fun K16 hK16 => ?_
              refine SW.block ?_
              refine SW.seq_k fun K17 hK17 => ?_
              refine SW.region _ _ _ _ ?_
              refine RL.p T ?_
              refine RL.p T ?_
              refine RL.nil _ _ _ _ ?_
              refine hK17 _ _ _ ?_
              refine SW.region _ _ _ _ ?_
              refine RL.p T ?_
              refine RL.lv1 T ?_
              refine RL.p T ?_
              refine RL.ix T ?_ (hR := fun hs => (Rd.rowh hs (by repeat first | exact At.head _ _ | apply At.tail | apply At.app)))
              refine RL.le T ?_ (hR := fun hs => (Rd.rowh hs (by repeat first | exact At.head _ _ | apply At.tail | apply At.app))) (hv := (map_as (by omega) (inc_get (by omega))))
              first | refine RL.arK ?_ | refine RL.p T ?_
              refine RL.ix T ?_ (hR := fun hs => (Rd.rowh hs (by repeat first | exact At.head _ _ | apply At.tail | apply At.app)))
              refine RL.sei T ?_ (hl := (by omega))
              refine RL.nil _ _ _ _ ?_
              refine hK16 _ _ _ ?_
              refine SW.region _ _ _ _ ?_
              first | refine RL.ar ?_ | refine RL.p T ?_
              refine RL.p T ?_
              refine RL.nil _ _ _ _ ?_
              exact ⟨x.f.data.length - (k + 1), (by omega), k + 1, (by rfl), ⟨by omega, trivial⟩, (.cons rfl (.nil (by repeat first | exact Mx.refl | exact Mx.mix | refine Mx.put rfl ?_ | refine Mx.upd rfl ?_ | refine Mx.updl rfl ?_ | refine Mx.fin rfl ?_ | refine Mx.inner rfl ?_ | refine Mx.none ?_))), rfl, (by rw [← inc_step (by omega)]; rfl)⟩
              )
           ·skip
            first
             | (exfalso; first | omega | contradiction | (simp at *; done))
             | (
              refine SW.exit ?_
              refine hK12 _ _ _ ?_
              refine SW.seq_k fun K18 hK18 => ?_
              refine SW.seq_k fun K19 hK19 => ?_
              refine SW.weaken (fun _ h => satow h) ?_
              refine SW.region _ _ _ _ ?_
              refine RL.p T ?_
              refine RL.c fun18 (fun hs => fall bq R2 3 0 2 0 _ (by repeat first | exact At.head _ _ | assumption | apply At.tail | apply At.app) L2 hL2 hn2 (fun y hy => FsOk.cons (FsOk.appr ((fun y hy => (hg2 y hy).elim (fun h => (hg1 y h).elim (fun h => by cases h) (fun h => h.app)) (fun h => h.appr)) y hy)))) ?_
              rintro _ _ ⟨a1, c1, al1, rfl, hal1, haf1, han1, e⟩; obtain rfl := e.symm
              have hk1 : ∀ y ∈ al1, y.f = x.f := fun y hy => by
                have h : y.f ∈ frs al1 := List.mem_map_of_mem hy
                rw [haf1, h2] at h
                simpa using h
              have hk2 : ∀ k, k < 2 → (al1.getD k default).f = x.f := fun k hk => (frs_getD (haf1.trans h2) hk).trans (by rcases (by omega : k = 0 ∨ k = 1) with rfl | rfl <;> rfl)
              have hk3 : ∀ k, (al1.getD k default).n = (al1.getD k default).f.data.length := getD_mem (P := fun y => y.n = y.f.data.length) rfl han1
              refine RL.p T ?_
              refine RL.p T ?_
              refine RL.perm (.cons _ ((RI_start al1).append_right _)) ?_
              refine RL.nil _ _ _ _ ?_
              refine hK19 _ _ _ ?_
              refine SW.block ?_
              refine SW.loopM (fun frB mm fr ds HH => ∃ (k : Nat) , mm = 2 - k ∧ (k ≤ 2 ∧ (True)) ∧ FrIs [8, 9, 53, 54, 55, 56, 57, 58, 59, 60, 61, 62, 63, 64, 65, 66, 67, 68, 69, 70, 71] frB fr [(53, .int .i64 k)] ∧ ds = [] ∧ HH = (.row a1 2 c1 31 11 (al1.flatMap FsC) :: (RI al1 k ++ (.var bq 57 (FifoC R2 ((3 : Nat) : Int) ((0 : Nat) : Int) ((2 : Nat) : Int) ((0 : Nat) : Int)) :: ((D2 ++ D1) ++ (.var b1_0 31 (FsC x) :: H)))))) (n := 2 - 0) ?_ ?_
              ·exact ⟨0, rfl, ⟨Nat.zero_le _, trivial⟩, (.cons rfl (.nil (by repeat first | exact Mx.refl | exact Mx.mix | refine Mx.put rfl ?_ | refine Mx.upd rfl ?_ | refine Mx.updl rfl ?_ | refine Mx.fin rfl ?_ | refine Mx.inner rfl ?_ | refine Mx.none ?_))), rfl, rfl⟩
              ·rintro mm fr ds HH ⟨k, rfl, ⟨hk, _⟩, hFr, rfl, eHH⟩
               obtain rfl := eHH.symm
               obtain ⟨frU, rfl⟩ := hFr.eq
               clear hFr
               have hkn := hk3 k
               have hkf : k < 2 → (al1.getD k default).f.data.length = x.f.data.length := fun h => by rw [hk2 k h]
               have hka : k < 2 → k < al1.length := fun h => by omega
               refine SW.seq_k fun K20 hK20 => ?_
               refine SW.region _ _ _ _ ?_
               refine RL.p T ?_
               refine RL.nil _ _ _ _ ?_
               refine hK20 _ _ _ ?_
               refine SW.seq_k fun K21 hK21 => ?_
               refine SW.cs (fun hc3 => ?_) (fun hc3 => ?_)
               ·skip
                first
                 | (exfalso; first | omega | contradiction | (simp at *; done))
                 | (
                  refine SW.skip ?_
                  refine hK21 _ _ _ ?_
                  refine SW.seq_k fun K22 hK22 => ?_
                  refine SW.block ?_
                  refine SW.seq_k fun K23 hK23 => ?_
                  refine SW.region _ _ _ _ ?_
                  refine RL.ix T ?_ (hR := fun hs => (Rd.rowh hs (by repeat first | exact At.head _ _ | apply At.tail | apply At.app)))
                  refine RL.leN T ?_ (hR := fun hs => (Rd.rowh hs (by repeat first | exact At.head _ _ | apply At.tail | apply At.app))) (hvs := (by exact (rfl : _ = [_, _, _, _, _, _, _, _, _, _, _])))
                  refine RL.s ?_
                  refine NV.alloc T rfl rfl rfl (by exact (rfl : _ = [_, _, _, _, _, _, _, _, _, _, _])) ?_
                  intro b8_2
                  refine RL.s ?_
                  refine NV.sN T rfl rfl rfl (by exact (rfl : _ = [_, _, _, _, _, _, _, _, _, _, _])) (by exact (rfl : _ = [_, _, _, _, _, _, _, _, _, _, _])) ?_
                  refine RL.nil _ _ _ _ ?_
                  refine hK23 _ _ _ ?_
                  refine SW.seq_k fun K24 hK24 => ?_
                  refine SW.perm (ow_a (hka (by omega))) ?_
                  refine SW.region _ _ _ _ ?_
                  refine RL.p T ?_
                  refine RL.lv1 T ?_
                  refine RL.p T ?_
                  refine RL.p T ?_
                  refine RL.nil _ _ _ _ ?_
                  refine hK24 _ _ _ ?_
                  refine SW.block ?_
                  refine SW.loopM (fun frB mm fr ds HH => ∃ (i : Nat), mm = (al1.getD k default).f.data.length - i ∧ (i ≤ (al1.getD k default).f.data.length) ∧ FrIs [9, 60, 61, 62, 63, 64, 65, 66, 67, 68, 69, 70] frB fr [(60, .int .i64 i)] ∧ ds = [] ∧ HH = (.row (al1.getD k default).a (al1.getD k default).n (al1.getD k default).c 5 1 ((((al1.getD k default).f.data.take i).map inc ++ (al1.getD k default).f.data.drop i).map (.int .u8)) :: .var b8_2 31 (FsC (al1.getD k default)) :: .row a1 2 c1 31 11 (al1.flatMap FsC) :: (RX al1 k ++ (.var bq 57 (FifoC R2 ((3 : Nat) : Int) ((0 : Nat) : Int) ((2 : Nat) : Int) ((0 : Nat) : Int)) :: ((D2 ++ D1) ++ (.var b1_0 31 (FsC x) :: H)))))) (n := (al1.getD k default).f.data.length - 0) ?_ ?_
                  ·exact ⟨0, rfl, Nat.zero_le _, (.cons rfl (.nil (by repeat first | exact Mx.refl | exact Mx.mix | refine Mx.put rfl ?_ | refine Mx.upd rfl ?_ | refine Mx.updl rfl ?_ | refine Mx.fin rfl ?_ | refine Mx.inner rfl ?_ | refine Mx.none ?_))), rfl, (by simp [rowOf]; try rfl)⟩
                  ·rintro mm fr ds HH ⟨i, rfl, hi, hFr, rfl, eHH⟩
                   obtain rfl := eHH.symm
                   obtain ⟨frU, rfl⟩ := hFr.eq
                   clear hFr
                   have hil : (((al1.getD k default).f.data.take i).map inc ++ (al1.getD k default).f.data.drop i).length = (al1.getD k default).f.data.length := by simp [List.length_take]; omega
                   refine SW.seq_k fun K25 hK25 => ?_
                   refine SW.region _ _ _ _ ?_
                   refine RL.p T ?_
                   refine RL.nil _ _ _ _ ?_
                   refine hK25 _ _ _ ?_
                   refine SW.seq_k fun K26 hK26 => ?_
                   refine SW.cs (fun hc4 => ?_) (fun hc4 => ?_)
                   ·skip
                    first
                     | (exfalso; first | omega | contradiction | (simp at *; done))
                     | (
                      refine SW.skip ?_
                      refine hK26 _ _ _ ?_
                      refine SW.seq_k fun K27 hK27 => ?_
                      refine SW.block ?_
                      refine SW.seq_k fun K28 hK28 => ?_
                      refine SW.region _ _ _ _ ?_
                      refine RL.p T ?_
                      refine RL.p T ?_
                      refine RL.nil _ _ _ _ ?_
                      refine hK28 _ _ _ ?_
                      refine SW.region _ _ _ _ ?_
                      refine RL.p T ?_
                      refine RL.lv1 T ?_
                      refine RL.p T ?_
                      refine RL.ix T ?_ (hR := fun hs => (Rd.rowh hs (by repeat first | exact At.head _ _ | apply At.tail | apply At.app)))
                      refine RL.le T ?_ (hR := fun hs => (Rd.rowh hs (by repeat first | exact At.head _ _ | apply At.tail | apply At.app))) (hv := (map_as (by omega) (inc_get (by omega))))
                      first | refine RL.arK ?_ | refine RL.p T ?_
                      refine RL.ix T ?_ (hR := fun hs => (Rd.rowh hs (by repeat first | exact At.head _ _ | apply At.tail | apply At.app)))
                      refine RL.sei T ?_ (hl := (by omega))
                      refine RL.nil _ _ _ _ ?_
                      refine hK27 _ _ _ ?_
                      refine SW.region _ _ _ _ ?_
                      first | refine RL.ar ?_ | refine RL.p T ?_
                      refine RL.p T ?_
                      refine RL.nil _ _ _ _ ?_
                      exact ⟨(al1.getD k default).f.data.length - (i + 1), (by omega), i + 1, (by rfl), by omega, (.cons rfl (.nil (by repeat first | exact Mx.refl | exact Mx.mix | refine Mx.put rfl ?_ | refine Mx.upd rfl ?_ | refine Mx.updl rfl ?_ | refine Mx.fin rfl ?_ | refine Mx.inner rfl ?_ | refine Mx.none ?_))), rfl, (by rw [← inc_step (by omega)]; rfl)⟩
                      )
                   ·skip
                    first
                     | (exfalso; first | omega | contradiction | (simp at *; done))
                     | (
                      refine SW.exit ?_
                      refine hK22 _ _ _ ?_
                      obtain rfl : i = (al1.getD k default).f.data.length := by omega
                      rw [List.take_length, List.drop_length, List.append_nil]
                      refine SW.weaken (fun _ h => ow_b (hka (by omega)) h) ?_
                      refine SW.region _ _ _ _ ?_
                      first | refine RL.ar ?_ | refine RL.p T ?_
                      refine RL.p T ?_
                      refine RL.nil _ _ _ _ ?_
                      exact ⟨2 - (k + 1), (by omega), k + 1, (by rfl), ⟨by omega, trivial⟩, (.cons rfl (.nil (by repeat first | exact Mx.refl | exact Mx.mix | refine Mx.put rfl ?_ | refine Mx.upd rfl ?_ | refine Mx.updl rfl ?_ | refine Mx.fin rfl ?_ | refine Mx.inner rfl ?_ | refine Mx.none ?_))), rfl, rfl⟩
                      )
                  )
               ·skip
                first
                 | (exfalso; first | omega | contradiction | (simp at *; done))
                 | (
                  refine SW.exit ?_
                  refine hK18 _ _ _ ?_
                  refine SW.seq_k fun K29 hK29 => ?_
                  refine SW.weaken (fun _ h => h.tail.app) ?_
                  refine SW.region _ _ _ _ ?_
                  refine RL.p T ?_
                  refine RL.c fun15 (fun hs => popU bq R2 3 0 2 0 _ (by repeat first | exact At.head _ _ | assumption | apply At.tail | apply At.app) L2 hL2 hn2 (by omega)) ?_
                  rintro _ _ ⟨R3, first3, rfl, e, hL3⟩; obtain rfl := e.symm
                  have hy0 : FsOk w0 (D2 ++ D1) (L2.getD 0 default) := getD_mem FsOk.dflt (fun y hy => (hg2 y hy).elim (fun h => (hg1 y h).elim (fun h => by cases h) (fun h => h.app)) (fun h => h.appr)) 0
                  have hy1 := frs_getD (k := 0) h2 (by simp)
                  have hlt : 1 = L2.tail.length := by rw [List.length_tail]; omega
                  refine RL.p T ?_
                  refine RL.p T ?_
                  refine RL.p T ?_
                  refine RL.s ?_
                  refine NV.alloc T rfl rfl rfl (by exact (rfl : _ = [_, _, _, _, _, _, _, _, _, _, _])) ?_
                  intro b10_3
                  refine RL.s ?_
                  refine NV.sN T rfl rfl rfl (by exact (rfl : _ = [_, _, _, _, _, _, _, _, _, _, _])) (by exact (rfl : _ = [_, _, _, _, _, _, _, _, _, _, _])) ?_
                  refine RL.p T ?_
                  refine RL.nil _ _ _ _ ?_
                  refine hK29 _ _ _ ?_
                  refine SW.seq_k fun K30 hK30 => ?_
                  refine SW.region _ _ _ _ ?_
                  refine RL.p T ?_
                  refine RL.c fun22 (fun hs => fclear bq R3 3 first3 1 0 _ (by repeat first | exact At.head _ _ | assumption | apply At.tail | apply At.app) L2.tail hL3 hlt (fun y hy => ((fun y hy => (hg2 y hy).elim (fun h => (hg1 y h).elim (fun h => by cases h) (fun h => h.app)) (fun h => h.appr)) y (List.mem_of_mem_tail hy)).appr.cons.cons)) ?_
                  rintro _ _ ⟨a2, c2, al2, rfl, hal2, haf2, han2, e⟩; obtain rfl := e.symm
                  have hz1 : (al2.getD 0 default).f = x.f := frs_getD (k := 0) (haf2.trans ((frs_tail L2).trans (by rw [h2]; rfl) : _ = [x.f])) (by simp)
                  refine RL.p T ?_
                  refine RL.nil _ _ _ _ ?_
                  refine hK30 _ _ _ ?_
                  refine SW.seq_k fun K31 hK31 => ?_
                  refine SW.sat (fun hs9 => ?_)
                  have hz0 : FsOk w0 (rowsOf al2) (al2.getD 0 default) := getD_mem FsOk.dflt (al_ok (G := D2 ++ D1) (L := L2.tail) (fun y hy => ((fun y hy => (hg2 y hy).elim (fun h => (hg1 y h).elim (fun h => by cases h) (fun h => h.app)) (fun h => h.appr)) y (List.mem_of_mem_tail hy) : FsOk w0 (D2 ++ D1) y)) haf2 han2 (satl (sat1 hs9))) 0
                  refine SW.draw [(79, 0), (80, 1), (81, 2), (82, 3), (83, 4), (84, 5), (85, 6), (86, 7), (87, 8), (88, 9), (89, 10), (90, 11), (91, 12), (92, 13), (93, 14), (94, 15), (95, 16), (96, 17), (97, 18), (98, 19), (99, 20), (100, 21), (101, 22), (102, 23), (103, 24), (104, 25), (105, 26), (106, 27), (107, 28), (108, 29), (2, 30)] [[], [0], [1, 0], [2, 1, 0], [2, 1, 0], [3, 2, 1, 0, 4], [2, 1, 0, 5, 3, 4], [6, 2, 1, 0, 5, 3, 4], [7, 6, 2, 1, 0, 5, 3, 4], [8, 7, 6, 2, 1, 0, 5, 3, 4], [9, 8, 7, 6, 2, 1, 0, 5, 3, 4], [7, 6, 2, 1, 0, 5, 3, 4, 10, 9, 8], [11, 7, 6, 2, 1, 0, 5, 3, 4, 10, 9, 8], [12, 11, 7, 6, 2, 1, 0, 5, 3, 4, 10, 9, 8], [13, 12, 11, 7, 6, 2, 1, 0, 5, 3, 4, 10, 9, 8], [14, 13, 12, 11, 7, 6, 2, 1, 0, 5, 3, 4, 10, 9, 8], [12, 11, 7, 6, 2, 1, 0, 5, 3, 4, 10, 9, 8], [15, 14, 13, 12, 11, 7, 6, 2, 1, 0, 5, 3, 4, 10, 9, 8, 16], [12, 11, 7, 6, 2, 1, 0, 5, 3, 4, 10, 9, 8, 17, 15, 14, 13, 16], [18, 12, 11, 7, 6, 2, 1, 0, 5, 3, 4, 10, 9, 8, 17, 15, 14, 13, 16], [19, 18, 12, 11, 7, 6, 2, 1, 0, 5, 3, 4, 10, 9, 8, 17, 15, 14, 13, 16], [20, 19, 18, 12, 11, 7, 6, 2, 1, 0, 5, 3, 4, 10, 9, 8, 17, 15, 14, 13, 16], [21, 20, 19, 18, 12, 11, 7, 6, 2, 1, 0, 5, 3, 4, 10, 9, 8, 17, 15, 14, 13, 16], [19, 18, 12, 11, 7, 6, 2, 1, 0, 5, 3, 4, 10, 9, 8, 17, 15, 14, 13, 16, 22, 21, 20], [23, 19, 18, 12, 11, 7, 6, 2, 1, 0, 5, 3, 4, 10, 9, 8, 17, 15, 14, 13, 16, 22, 21, 20], [24, 23, 19, 18, 12, 11, 7, 6, 2, 1, 0, 5, 3, 4, 10, 9, 8, 17, 15, 14, 13, 16, 22, 21, 20], [25, 24, 23, 19, 18, 12, 11, 7, 6, 2, 1, 0, 5, 3, 4, 10, 9, 8, 17, 15, 14, 13, 16, 22, 21, 20], [26, 25, 24, 23, 19, 18, 12, 11, 7, 6, 2, 1, 0, 5, 3, 4, 10, 9, 8, 17, 15, 14, 13, 16, 22, 21, 20], [27, 26, 25, 24, 23, 19, 18, 12, 11, 7, 6, 2, 1, 0, 5, 3, 4, 10, 9, 8, 17, 15, 14, 13, 16, 22, 21, 20], [24, 23, 19, 18, 12, 11, 7, 6, 2, 1, 0, 5, 3, 4, 10, 9, 8, 17, 15, 14, 13, 16, 22, 21, 20, 28, 27, 26, 25], [29, 24, 23, 19, 18, 12, 11, 7, 6, 2, 1, 0, 5, 3, 4, 10, 9, 8, 17, 15, 14, 13, 16, 22, 21, 20, 28, 27, 26, 25]] mixed (by kernel_rfl) (by kernel_rfl) ?_
                  refine RD.p T ?_
                  refine RD.p T ?_
                  refine RD.p T ?_
                  refine RD.split 2 rfl (fun hs1 => ?_) (fun hs1 => ?_)
                  ·try simp only [decide_eq_true_eq, decide_eq_false_iff_not, Bool.not_eq_true', Bool.not_eq_false', Int.not_lt, Int.not_le, Int.toNat_natCast] at hs1
                   first
                    | (exfalso; first | omega | contradiction | (simp at *; done))
                    | (
                     refine RD.q rfl rfl (Gd.yes rfl rfl) (QV.vN T rfl rfl rfl rfl rfl (by exact (rfl : _ = [_, _, _, _, _, _, _, _, _, _, _]))) ?_
                     refine RD.q rfl rfl (Gd.yes rfl rfl) (QV.vN T rfl rfl rfl rfl rfl (by exact (rfl : _ = [_, _, _, _, _, _, _, _, _, _, _]))) ?_
                     refine RD.nv rfl rfl rfl (Gd.yes rfl rfl) ?_
                     refine NV.call rfl rfl rfl fun16 rfl rfl (fsameT _ _ _ _ (by repeat first | exact hy0.rd.appr | apply Rd.cons | apply Rd.app) hy0.len hy0.max hy0.ok _ _ _ _ (hx _).rd hx0.len hx0.max hx0.ok hy1) ?_
                     rintro _ _ ⟨rfl, e⟩; obtain rfl := e.symm
                     refine ⟨Stab.nil, ?_⟩
                     refine RD.p T ?_
                     refine RD.p T ?_
                     refine RD.split 7 rfl (fun hs2 => ?_) (fun hs2 => ?_)
                     ·try simp only [decide_eq_true_eq, decide_eq_false_iff_not, Bool.not_eq_true', Bool.not_eq_false', Int.not_lt, Int.not_le, Int.toNat_natCast] at hs2
                      first
                       | (exfalso; first | omega | contradiction | (simp at *; done))
                       | (
                        refine RD.p T ?_
                        refine RD.p T ?_
                        refine RD.p T ?_
                        refine RD.p T ?_
                        refine RD.p T ?_
                        refine RD.split 12 rfl (fun hs3 => ?_) (fun hs3 => ?_)
                        ·try simp only [decide_eq_true_eq, decide_eq_false_iff_not, Bool.not_eq_true', Bool.not_eq_false', Int.not_lt, Int.not_le, Int.toNat_natCast] at hs3
                         first
                          | (exfalso; first | omega | contradiction | (simp at *; done))
                          | (
                           refine RD.p T ?_
                           refine RD.q rfl rfl (Gd.yes rfl rfl) (QV.indexAddr_slice T rfl rfl rfl rfl rfl (Rd.some (Rd.rowh hs9 (by repeat first | exact At.head _ _ | apply At.tail | apply At.app)) (by omega)) (by omega) (by omega)) ?_
                           refine RD.q rfl rfl (Gd.yes rfl rfl) (QV.leN T rfl rfl rfl rfl rfl rfl (Rd.rowh hs9 (by repeat first | exact At.head _ _ | apply At.tail | apply At.app)) (get_dflt al2 (j := 0) (by omega)) (by exact (rfl : _ = [_, _, _, _, _, _, _, _, _, _, _]))) ?_
                           refine RD.q rfl rfl (Gd.yes rfl rfl) (QV.vN T rfl rfl rfl rfl rfl (by exact (rfl : _ = [_, _, _, _, _, _, _, _, _, _, _]))) ?_
                           refine RD.nv rfl rfl rfl (Gd.yes rfl rfl) ?_
                           refine NV.call rfl rfl rfl fun16 rfl rfl (fsameT _ _ _ _ (by repeat first | exact hz0.rd.appr | apply Rd.cons | apply Rd.app) hz0.len hz0.max hz0.ok _ _ _ _ (hx _).rd hx0.len hx0.max hx0.ok hz1) ?_
                           rintro _ _ ⟨rfl, e⟩; obtain rfl := e.symm
                           refine ⟨Stab.nil, ?_⟩
                           refine RD.p T ?_
                           refine RD.p T ?_
                           refine RD.split 19 rfl (fun hs4 => ?_) (fun hs4 => ?_)
                           ·try simp only [decide_eq_true_eq, decide_eq_false_iff_not, Bool.not_eq_true', Bool.not_eq_false', Int.not_lt, Int.not_le, Int.toNat_natCast] at hs4
                            first
                             | (exfalso; first | omega | contradiction | (simp at *; done))
                             | (
                              refine RD.p T ?_
                              refine RD.nv rfl rfl rfl (Gd.yes rfl rfl) ?_
                              refine NV.call rfl rfl rfl fun13 rfl rfl (flen bq (fun _ => default) 3 0 0 0 _ (by repeat first | exact At.head _ _ | assumption | apply At.tail | apply At.app)) ?_
                              rintro _ _ ⟨rfl, e⟩; obtain rfl := e.symm
                              refine ⟨Stab.nil, ?_⟩
                              refine RD.p T ?_
                              refine RD.p T ?_
                              refine RD.p T ?_
                              refine RD.split 24 rfl (fun hs5 => ?_) (fun hs5 => ?_)
                              ·try simp only [decide_eq_true_eq, decide_eq_false_iff_not, Bool.not_eq_true', Bool.not_eq_false', Int.not_lt, Int.not_le, Int.toNat_natCast] at hs5
                               first
                                | (exfalso; first | omega | contradiction | (simp at *; done))
                                | (
                                 refine RD.p T ?_
                                 refine RD.nv rfl rfl rfl (Gd.yes rfl rfl) ?_
                                 refine NV.call rfl rfl rfl fun22 rfl rfl (fclear bq (fun _ => default) 3 0 0 0 _ (by repeat first | exact At.head _ _ | assumption | apply At.tail | apply At.app) [] (RingIs.nil _) rfl (fun _ h => by cases h)) ?_
                                 rintro _ _ ⟨a3, c3, al3, rfl, hal3, haf3, han3, e⟩; obtain rfl := e.symm
                                 refine ⟨Stab.nil, ?_⟩
                                 refine RD.p T ?_
                                 refine RD.p T ?_
                                 refine RD.p T ?_
                                 refine RD.p T ?_
                                 refine RD.k rfl rfl ?_
                                 refine hK31 _ _ _ ?_
                                 refine SW.ret ?_
                                 refine retQ.rr (H) ?_
                                 clear hK31 K31 hK30 K30 hK29 K29 hK21 K21 hK20 K20 hK19 K19 hK18 K18 hK15 K15 hK14 K14 hK13 K13 hK12 K12 hK11 K11 hK10 K10 hK9 K9 hK8 K8 hK5 K5 hK4 K4 hK2 K2 hK1 K1 hK0 K0
                                 first
                                   | exact ⟨rfl, rfl⟩
                                   | (refine ⟨boolE ?_, rfl⟩; simp; done)
                                 )
                              ·try simp only [decide_eq_true_eq, decide_eq_false_iff_not, Bool.not_eq_true', Bool.not_eq_false', Int.not_lt, Int.not_le, Int.toNat_natCast] at hs5
                               first
                                | (exfalso; first | omega | contradiction | (simp at *; done))
                                | (
                                 refine RD.skip rfl rfl rfl rfl ?_
                                 refine RD.skipN rfl rfl rfl rfl rfl Stab.nil ?_
                                 refine RD.skip rfl rfl rfl rfl ?_
                                 refine RD.skip rfl rfl rfl rfl ?_
                                 refine RD.p T ?_
                                 refine RD.p T ?_
                                 refine RD.k rfl rfl ?_
                                 refine hK31 _ _ _ ?_
                                 refine SW.ret ?_
                                 refine retQ.rr (H) ?_
                                 clear hK31 K31 hK30 K30 hK29 K29 hK21 K21 hK20 K20 hK19 K19 hK18 K18 hK15 K15 hK14 K14 hK13 K13 hK12 K12 hK11 K11 hK10 K10 hK9 K9 hK8 K8 hK5 K5 hK4 K4 hK2 K2 hK1 K1 hK0 K0
                                 first
                                   | exact ⟨rfl, rfl⟩
                                   | (refine ⟨boolE ?_, rfl⟩; simp; done)
                                 )
                              )
                           ·try simp only [decide_eq_true_eq, decide_eq_false_iff_not, Bool.not_eq_true', Bool.not_eq_false', Int.not_lt, Int.not_le, Int.toNat_natCast] at hs4
                            first
                             | (exfalso; first | omega | contradiction | (simp at *; done))
                             | (
                              refine RD.skip rfl rfl rfl rfl ?_
                              refine RD.skipN rfl rfl rfl rfl rfl Stab.nil ?_
                              refine RD.skip rfl rfl rfl rfl ?_
                              refine RD.p T ?_
                              refine RD.p T ?_
                              refine RD.skip rfl rfl rfl rfl ?_
                              refine RD.skipN rfl rfl rfl rfl rfl Stab.nil ?_
                              refine RD.skip rfl rfl rfl rfl ?_
                              refine RD.skip rfl rfl rfl rfl ?_
                              refine RD.p T ?_
                              refine RD.p T ?_
                              refine RD.k rfl rfl ?_
                              refine hK31 _ _ _ ?_
                              refine SW.ret ?_
                              refine retQ.rr (H) ?_
                              clear hK31 K31 hK30 K30 hK29 K29 hK21 K21 hK20 K20 hK19 K19 hK18 K18 hK15 K15 hK14 K14 hK13 K13 hK12 K12 hK11 K11 hK10 K10 hK9 K9 hK8 K8 hK5 K5 hK4 K4 hK2 K2 hK1 K1 hK0 K0
                              first
                                | exact ⟨rfl, rfl⟩
                                | (refine ⟨boolE ?_, rfl⟩; simp; done)
                              )
                           )
                        ·try simp only [decide_eq_true_eq, decide_eq_false_iff_not, Bool.not_eq_true', Bool.not_eq_false', Int.not_lt, Int.not_le, Int.toNat_natCast] at hs3
                         first
                          | (exfalso; first | omega | contradiction | (simp at *; done))
                          | (
                           refine RD.skip rfl rfl rfl rfl ?_
                           refine RD.skip rfl rfl rfl rfl ?_
                           refine RD.skip rfl rfl rfl rfl ?_
                           refine RD.skip rfl rfl rfl rfl ?_
                           refine RD.skipN rfl rfl rfl rfl rfl Stab.nil ?_
                           refine RD.p T ?_
                           refine RD.p T ?_
                           refine RD.skip rfl rfl rfl rfl ?_
                           refine RD.skipN rfl rfl rfl rfl rfl Stab.nil ?_
                           refine RD.skip rfl rfl rfl rfl ?_
                           refine RD.p T ?_
                           refine RD.p T ?_
                           refine RD.skip rfl rfl rfl rfl ?_
                           refine RD.skipN rfl rfl rfl rfl rfl Stab.nil ?_
                           refine RD.skip rfl rfl rfl rfl ?_
                           refine RD.skip rfl rfl rfl rfl ?_
                           refine RD.p T ?_
                           refine RD.p T ?_
                           refine RD.k rfl rfl ?_
                           refine hK31 _ _ _ ?_
                           refine SW.ret ?_
                           refine retQ.rr (H) ?_
                           clear hK31 K31 hK30 K30 hK29 K29 hK21 K21 hK20 K20 hK19 K19 hK18 K18 hK15 K15 hK14 K14 hK13 K13 hK12 K12 hK11 K11 hK10 K10 hK9 K9 hK8 K8 hK5 K5 hK4 K4 hK2 K2 hK1 K1 hK0 K0
                           first
                             | exact ⟨rfl, rfl⟩
                             | (refine ⟨boolE ?_, rfl⟩; simp; done)
                           )
                        )
                     ·try simp only [decide_eq_true_eq, decide_eq_false_iff_not, Bool.not_eq_true', Bool.not_eq_false', Int.not_lt, Int.not_le, Int.toNat_natCast] at hs2
                      first
                       | (exfalso; first | omega | contradiction | (simp at *; done))
                       | (
                        refine RD.skip rfl rfl rfl rfl ?_
                        refine RD.skip rfl rfl rfl rfl ?_
                        refine RD.skip rfl rfl rfl rfl ?_
                        refine RD.p T ?_
                        refine RD.p T ?_
                        refine RD.skip rfl rfl rfl rfl ?_
                        refine RD.skip rfl rfl rfl rfl ?_
                        refine RD.skip rfl rfl rfl rfl ?_
                        refine RD.skip rfl rfl rfl rfl ?_
                        refine RD.skipN rfl rfl rfl rfl rfl Stab.nil ?_
                        refine RD.p T ?_
                        refine RD.p T ?_
                        refine RD.skip rfl rfl rfl rfl ?_
                        refine RD.skipN rfl rfl rfl rfl rfl Stab.nil ?_
                        refine RD.skip rfl rfl rfl rfl ?_
                        refine RD.p T ?_
                        refine RD.p T ?_
                        refine RD.skip rfl rfl rfl rfl ?_
                        refine RD.skipN rfl rfl rfl rfl rfl Stab.nil ?_
                        refine RD.skip rfl rfl rfl rfl ?_
                        refine RD.skip rfl rfl rfl rfl ?_
                        refine RD.p T ?_
                        refine RD.p T ?_
                        refine RD.k rfl rfl ?_
                        refine hK31 _ _ _ ?_
                        refine SW.ret ?_
                        refine retQ.rr (H) ?_
                        clear hK31 K31 hK30 K30 hK29 K29 hK21 K21 hK20 K20 hK19 K19 hK18 K18 hK15 K15 hK14 K14 hK13 K13 hK12 K12 hK11 K11 hK10 K10 hK9 K9 hK8 K8 hK5 K5 hK4 K4 hK2 K2 hK1 K1 hK0 K0
                        first
                          | exact ⟨rfl, rfl⟩
                          | (refine ⟨boolE ?_, rfl⟩; simp; done)
                        )
                     )
                  ·try simp only [decide_eq_true_eq, decide_eq_false_iff_not, Bool.not_eq_true', Bool.not_eq_false', Int.not_lt, Int.not_le, Int.toNat_natCast] at hs1
                   first
                    | (exfalso; first | omega | contradiction | (simp at *; done))
                    | (
                     refine RD.skip rfl rfl rfl rfl ?_
                     refine RD.skip rfl rfl rfl rfl ?_
                     refine RD.skipN rfl rfl rfl rfl rfl Stab.nil ?_
                     refine RD.p T ?_
                     refine RD.p T ?_
                     refine RD.skip rfl rfl rfl rfl ?_
                     refine RD.skip rfl rfl rfl rfl ?_
                     refine RD.skip rfl rfl rfl rfl ?_
                     refine RD.p T ?_
                     refine RD.p T ?_
                     refine RD.skip rfl rfl rfl rfl ?_
                     refine RD.skip rfl rfl rfl rfl ?_
                     refine RD.skip rfl rfl rfl rfl ?_
                     refine RD.skip rfl rfl rfl rfl ?_
                     refine RD.skipN rfl rfl rfl rfl rfl Stab.nil ?_
                     refine RD.p T ?_
                     refine RD.p T ?_
                     refine RD.skip rfl rfl rfl rfl ?_
                     refine RD.skipN rfl rfl rfl rfl rfl Stab.nil ?_
                     refine RD.skip rfl rfl rfl rfl ?_
                     refine RD.p T ?_
                     refine RD.p T ?_
                     refine RD.skip rfl rfl rfl rfl ?_
                     refine RD.skipN rfl rfl rfl rfl rfl Stab.nil ?_
                     refine RD.skip rfl rfl rfl rfl ?_
                     refine RD.skip rfl rfl rfl rfl ?_
                     refine RD.p T ?_
                     refine RD.p T ?_
                     refine RD.k rfl rfl ?_
                     refine hK31 _ _ _ ?_
                     refine SW.ret ?_
                     refine retQ.rr (H) ?_
                     clear hK31 K31 hK30 K30 hK29 K29 hK21 K21 hK20 K20 hK19 K19 hK18 K18 hK15 K15 hK14 K14 hK13 K13 hK12 K12 hK11 K11 hK10 K10 hK9 K9 hK8 K8 hK5 K5 hK4 K4 hK2 K2 hK1 K1 hK0 K0
                     first
                       | exact ⟨rfl, rfl⟩
                       | (refine ⟨boolE ?_, rfl⟩; simp; done)
                     )
                  )
              )
          )
       )
    )
theorem fifoOwnI {w0 : World} {H : List Chunk} (f : Frm) (sa : Option Addr) (n c : Nat) (hR : ∀ H, Rd w0 H sa n c 1 (f.data.map (.int .u8))) (hn : n = f.data.length) (hm : n ≤ 140737488351232) (hf : FrOk f) : SC Try.prog w0 7 #[FA f sa n c] H (fun v H' => v = .bool true ∧ H' = H) :=
  fifoOwn ⟨f, sa, n, c⟩ (fun H => ⟨hn, hm, hf, hR H⟩)
end Go.Proofs.Ytojghialjpianaa.M
