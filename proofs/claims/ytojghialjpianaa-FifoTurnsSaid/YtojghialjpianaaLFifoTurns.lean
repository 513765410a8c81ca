import Derived.Test.YtojghialjpianaaProg
import Derived.Test.YtojghialjpianaaFD16
import Derived.Test.YtojghialjpianaaP16b
set_option linter.unusedVariables false
set_option linter.unusedSimpArgs false
namespace Go.Proofs.Ytojghialjpianaa.M
open Go Go.Sep Go.Proofs
set_option maxRecDepth 10000
set_option maxHeartbeats 2000000
theorem fifoTurns {w0 : World} {H : List Chunk} (ls : List Fs) (sr : Option Addr) (nr cr : Nat) (hB : ∀ H, Rd w0 H sr nr cr 11 (ls.flatMap FsC)) (hnr : nr = ls.length) (hmr : nr ≤ 4398046511000) (hls : ∀ H, ∀ x ∈ ls, FsOk w0 H x) (w : Nat) (hw : w ≤ 255) : SC Try.prog w0 5 #[.slice sr nr cr, .int .u8 (w : Nat)] H (fun v H' => v = .bool true ∧ H' = H) := by
 refine SC.enter Try.func5 rfl (Nat.le_of_ble_eq_true rfl) ?_
 refine SW.seq_k fun K0 hK0 => ?_
 refine SW.region _ _ _ _ ?_
 refine RL.p T ?_
 refine RL.nil _ _ _ _ ?_
 refine hK0 _ _ _ ?_
 refine SW.seq_k fun K1 hK1 => ?_
 refine SW.seq_k fun K2 hK2 => ?_
 refine SW.region _ _ _ _ ?_
 refine RL.c fun9 (fun hs => alive) ?_
 rintro _ _ ⟨rfl, e⟩; obtain rfl := e.symm
 refine RL.p T ?_
 refine RL.nil _ _ _ _ ?_
 refine hK2 _ _ _ ?_
 refine SW.cs (fun hc0 => ?_) (fun hc0 => ?_)
 ·skip
  first
   | (exfalso; first | omega | contradiction | (simp at *; done))
   | (
    refine SW.seq_k fun K3 hK3 => ?_
    refine SW.region _ _ _ _ ?_
    refine RL.p T ?_
    refine RL.nil _ _ _ _ ?_
    refine hK3 _ _ _ ?_
    refine SW.ret ?_
    refine retQ.rr (H) ?_
    clear hK3 K3 hK2 K2 hK1 K1 hK0 K0
    first
      | exact ⟨rfl, rfl⟩
      | (refine ⟨boolE ?_, rfl⟩
         rw [frs_app, haf, hfr]; simp; done)
      | (refine ⟨boolE ?_, rfl⟩; simp; done)
    )
 ·skip
  first
   | (exfalso; first | omega | contradiction | (simp at *; done))
   | (
    refine SW.skip ?_
    refine hK1 _ _ _ ?_
    refine SW.seq_k fun K4 hK4 => ?_
    refine SW.seq_k fun K5 hK5 => ?_
    refine SW.region _ _ _ _ ?_
    refine RL.p T ?_
    refine RL.p T ?_
    refine RL.p T ?_
    refine RL.nil _ _ _ _ ?_
    refine hK5 _ _ _ ?_
    refine SW.cs (fun hc1 => ?_) (fun hc1 => ?_)
    ·skip
     first
      | (exfalso; first | omega | contradiction | (simp at *; done))
      | (
       refine SW.seq_k fun K6 hK6 => ?_
       refine SW.region _ _ _ _ ?_
       refine RL.p T ?_
       refine RL.nil _ _ _ _ ?_
       refine hK6 _ _ _ ?_
       refine SW.ret ?_
       refine retQ.rr (H) ?_
       clear hK6 K6 hK5 K5 hK4 K4 hK2 K2 hK1 K1 hK0 K0
       first
         | exact ⟨rfl, rfl⟩
         | (refine ⟨boolE ?_, rfl⟩
            rw [frs_app, haf, hfr]; simp; done)
         | (refine ⟨boolE ?_, rfl⟩; simp; done)
       )
    ·skip
     first
      | (exfalso; first | omega | contradiction | (simp at *; done))
      | (
       refine SW.skip ?_
       refine hK4 _ _ _ ?_
       refine SW.seq_k fun K7 hK7 => ?_
       refine SW.region _ _ _ _ ?_
       refine RL.p T ?_
       first | refine RL.cv T ?_ | refine RL.p T ?_ | refine RL.ts T ?_
       refine RL.q (QV.as (QV.remP (b := 5) rfl rfl rfl (by omega) (by omega)) (show Value.int .i64 ((w : Int) % 5) = .int .i64 ((w % 5 : Nat) : Int) from by rw [Int.natCast_emod]; rfl)) ?_
       have hkk : w % 5 < 5 := Nat.mod_lt _ (by omega)
       generalize w % 5 = kk at hkk ⊢
       refine RL.p T ?_
       refine RL.nil _ _ _ _ ?_
       refine hK7 _ _ _ ?_
       refine SW.seq_k fun K8 hK8 => ?_
       refine SW.region _ _ _ _ ?_
       refine RL.p T ?_
       first | refine RL.ar ?_ | refine RL.p T ?_
       rw [show ((kk : Nat) : Int) + 1 = ((kk + 1 : Nat) : Int) by omega]
       refine RL.c fun10 (fun hs => fnew (kk + 1) (by omega)) ?_
       rintro _ _ ⟨bq, rfl, e⟩; obtain rfl := e.symm
       refine RL.p T ?_
       refine RL.p T ?_
       refine RL.p T ?_
       refine RL.p T ?_
       refine RL.p T ?_
       refine RL.nil _ _ _ _ ?_
       refine hK8 _ _ _ ?_
       refine SW.seq_k fun K9 hK9 => ?_
       refine SW.region _ _ _ _ ?_
       refine RL.p T ?_
       refine RL.p T ?_
       refine RL.nil _ _ _ _ ?_
       refine hK9 _ _ _ ?_
       refine SW.seq_k fun K10 hK10 => ?_
       refine SW.seq_k fun K11 hK11 => ?_
       refine SW.nilrow 31 11 (SW.nilrow 31 11 (SW.perm (List.Perm.trans (.cons _ (.swap _ _ _)) (.swap _ _ _)) ?_))
       refine SW.region _ _ _ _ ?_
       refine RL.p T ?_
       refine RL.p T ?_
       refine RL.p T ?_
       refine RL.nil _ _ _ _ ?_
       refine hK11 _ _ _ ?_
       refine SW.block ?_
       refine SW.loopM (fun frB mm fr ds HH => ∃ (k : Nat) (R : Nat → Fs) (first q : Nat) (G : List Chunk) (L gs os : List Fs) (am : Option Addr) (m cm : Nat) (ao : Option Addr) (mo co : Nat), mm = nr - k ∧ (k ≤ nr ∧ RingIs R first L ∧ q = L.length ∧ q ≤ kk ∧ (∀ x ∈ L, FsOk w0 G x) ∧ (∀ x ∈ os, FsOk w0 G x) ∧ m = gs.length ∧ mo = os.length ∧ gs = goodL (ls.take k) ∧ frs gs = frs os ++ frs L) ∧ FrIs [4, 8, 9, 11, 12, 13, 14, 15, 32, 33, 34, 35, 36, 37, 38, 39, 40, 41, 42, 43, 44, 45, 46, 47, 48, 49, 50, 51, 52, 53, 54, 55, 56, 57, 58, 59, 60, 61, 62, 63, 64, 65] frB fr [(8, .slice am m cm), (9, .slice ao mo co), (32, .int .i64 k)] ∧ ds = [] ∧ HH = (.var bq 57 (FifoC R ((kk + 1 : Nat) : Int) ((first : Nat) : Int) ((q : Nat) : Int) ((0 : Nat) : Int)) :: (G ++ (.row am m cm 31 11 (gs.flatMap FsC) :: .row ao mo co 31 11 (os.flatMap FsC) :: H)))) (n := nr - 0) ?_ ?_
       ·exact ⟨0, _, 0, 0, [], [], [], [], none, 0, 0, none, 0, 0, rfl, ⟨Nat.zero_le _, RingIs.nil _, rfl, Nat.zero_le _, (fun _ h => by cases h), (fun _ h => by cases h), rfl, rfl, rfl, rfl⟩, (.cons rfl (.cons rfl (.consI rfl (by first | omega | rfl) (.nil (by repeat first | exact Mx.refl | exact Mx.mix | refine Mx.put rfl ?_ | refine Mx.upd rfl ?_ | refine Mx.updl rfl ?_ | refine Mx.fin rfl ?_ | refine Mx.inner rfl ?_ | refine Mx.none ?_))))), rfl, rfl⟩
       ·rintro mm fr ds HH ⟨k, R, first, q, G, L, gs, os, am, m, cm, ao, mo, co, rfl, ⟨hk, hL, hq, hqk, hLo, hOo, hm, hmo, hgs, hfr⟩, hFr, rfl, eHH⟩
        obtain rfl := eHH.symm
        obtain ⟨frU, rfl⟩ := hFr.eq
        clear hFr
        have hx : ∀ {H : List Chunk}, FsOk w0 H (ls.getD k default) := fun {H} => getD_mem FsOk.dflt (hls H) k
        have hx0 := @hx []
        have hgl := goodL_len ls k
        have hgsl : gs.length ≤ ls.length := by rw [hgs]; exact hgl
        have hfl := congrArg List.length hfr
        rw [List.length_append, frs_len, frs_len, frs_len] at hfl
        refine SW.seq_k fun K12 hK12 => ?_
        refine SW.region _ _ _ _ ?_
        refine RL.p T ?_
        refine RL.nil _ _ _ _ ?_
        refine hK12 _ _ _ ?_
        refine SW.seq_k fun K13 hK13 => ?_
        refine SW.cs (fun hc2 => ?_) (fun hc2 => ?_)
        ·skip
         first
          | (exfalso; first | omega | contradiction | (simp at *; done))
          | (
           refine SW.skip ?_
           refine hK13 _ _ _ ?_
           refine SW.seq_k fun K14 hK14 => ?_
           refine SW.block ?_
           refine SW.seq_k fun K15 hK15 => ?_
           refine SW.region _ _ _ _ ?_
           refine RL.ix T ?_ (hR := fun hs => hB _)
           refine RL.leN T ?_ (hR := fun hs => hB _) (hvs := (by exact (rfl : _ = [_, _, _, _, _, _, _, _, _, _, _])))
           refine RL.s ?_
           refine NV.alloc T rfl rfl rfl (by exact (rfl : _ = [_, _, _, _, _, _, _, _, _, _, _])) ?_
           intro b11_0
           refine RL.s ?_
           refine NV.sN T rfl rfl rfl (by exact (rfl : _ = [_, _, _, _, _, _, _, _, _, _, _])) (by exact (rfl : _ = [_, _, _, _, _, _, _, _, _, _, _])) ?_
           refine RL.nil _ _ _ _ ?_
           refine hK15 _ _ _ ?_
           refine SW.seq_k fun K16 hK16 => ?_
           refine SW.region _ _ _ _ ?_
           refine RL.p T ?_
           refine RL.q (QV.vN T rfl rfl rfl rfl rfl (by exact (rfl : _ = [_, _, _, _, _, _, _, _, _, _, _]))) ?_
           refine RL.c fun11 (fun hs => pushU bq R (kk + 1) first q 0 _ (by repeat first | exact At.head _ _ | assumption | apply At.tail | apply At.app) L hL hq (by omega) (by omega) (ls.getD k default) hx) ?_
           rintro _ _ ⟨D1, R1, n1, o1, L1, rfl, e, hL1, hn1, hf1, ho1, hg1⟩; obtain rfl := e.symm
           obtain rfl : o1 = 0 := by rw [ho1, pushO, if_neg (by omega)]
           have hpc := pushI_or (kk + 1) q (ls.getD k default).f
           refine RL.p T ?_
           refine RL.p T ?_
           refine RL.p T ?_
           refine RL.p T ?_
           refine RL.p T ?_
           refine RL.nil _ _ _ _ ?_
           refine hK16 _ _ _ ?_
           refine SW.seq_k fun K17 hK17 => ?_
           refine SW.seq_k fun K18 hK18 => ?_
           refine SW.region _ _ _ _ ?_
           refine RL.p T ?_
           refine RL.p T ?_
           refine RL.nil _ _ _ _ ?_
           refine hK18 _ _ _ ?_
           refine SW.cs (fun hc3 => ?_) (fun hc3 => ?_)
           ·skip
            have hcx : ¬ chkF (ls.getD k default).f = 0 := by omega
            have hbd := push_bd hf1 hcx
            first
             | (exfalso; first | omega | contradiction | (simp at *; done))
             | (
              refine SW.exit ?_
              refine hK14 _ _ _ ?_
              first
                | refine SW.weaken (fun _ h => satmv h) ?_
                | refine SW.drop (SW.weaken (fun _ h => satmv h) ?_)
              refine SW.region _ _ _ _ ?_
              first | refine RL.ar ?_ | refine RL.p T ?_
              refine RL.p T ?_
              refine RL.nil _ _ _ _ ?_
              first
                | exact ⟨nr - (k + 1), (by omega), k + 1, R1, first, n1, D1 ++ G, L1, gs, os, am, m, cm, ao, mo, co, (by rfl), ⟨by omega, hL1, hn1, by have := congrArg List.length hbd; rw [frs_len, frs_len] at this; omega, okmix hLo hg1, (fun x hx => (hOo x hx).app), hm, hmo, by rw [goodL_snoc (by omega), if_neg hcx, hgs], by rw [hbd, hfr]⟩, (.cons rfl (.cons rfl (.consI rfl (by first | omega | rfl) (.nil (by repeat first | exact Mx.refl | exact Mx.mix | refine Mx.put rfl ?_ | refine Mx.upd rfl ?_ | refine Mx.updl rfl ?_ | refine Mx.fin rfl ?_ | refine Mx.inner rfl ?_ | refine Mx.none ?_))))), rfl, rfl⟩
                | exact ⟨nr - (k + 1), (by omega), k + 1, R1, first, n1, D1 ++ G, L1, gs ++ [(ls.getD k default)], os, a0_, m + 1, c0_, ao, mo, co, (by rfl), ⟨by omega, hL1, hn1, by omega, okmix hLo hg1, (fun x hx => (hOo x hx).app), by rw [List.length_append, hm]; rfl, hmo, by rw [goodL_snoc (by omega), if_pos hcx, hgs], by rw [frs_app, hfr, hgd, List.append_assoc]; rfl⟩, (.cons rfl (.cons rfl (.consI rfl (by first | omega | rfl) (.nil (by repeat first | exact Mx.refl | exact Mx.mix | refine Mx.put rfl ?_ | refine Mx.upd rfl ?_ | refine Mx.updl rfl ?_ | refine Mx.fin rfl ?_ | refine Mx.inner rfl ?_ | refine Mx.none ?_))))), rfl, rfl⟩
                | exact ⟨nr - (k + 1), (by omega), k + 1, R2, first2, n1 - 1, D1 ++ G, L1.tail, gs ++ [(ls.getD k default)], os ++ [(L1.getD 0 default)], a0_, m + 1, c0_, a1_, mo + 1, c1_, (by rfl), ⟨by omega, hL3, by rw [List.length_tail]; omega, by omega, tail_ok (okmix hLo hg1), (fun x hx => (List.mem_append.1 hx).elim (fun h => (hOo x h).app) (fun h => by rw [List.mem_singleton.1 h]; exact getD_mem FsOk.dflt (okmix hLo hg1) 0)), by rw [List.length_append, hm]; rfl, by rw [List.length_append, hmo]; rfl, by rw [goodL_snoc (by omega), if_pos hcx, hgs], by rw [frs_app, hfr, frs_app, List.append_assoc, List.append_assoc]; congr 1; show frs L ++ [(ls.getD k default).f] = [(L1.getD 0 default).f] ++ frs L1.tail; rw [← hgd]; exact frs_cons (by omega)⟩, (.cons rfl (.cons rfl (.consI rfl (by first | omega | rfl) (.nil (by repeat first | exact Mx.refl | exact Mx.mix | refine Mx.put rfl ?_ | refine Mx.upd rfl ?_ | refine Mx.updl rfl ?_ | refine Mx.fin rfl ?_ | refine Mx.inner rfl ?_ | refine Mx.none ?_))))), rfl, rfl⟩
              )
           ·skip
            first
             | (exfalso; first | omega | contradiction | (simp at *; done))
             | (
              refine SW.skip ?_
              refine hK17 _ _ _ ?_
              refine SW.seq_k fun K19 hK19 => ?_
              have hcx : chkF (ls.getD k default).f = 0 := by omega
              have hgd := push_gd hf1 hcx (by rw [frs_len]; omega)
              have hgl1 := congrArg List.length hgd
              rw [List.length_append, frs_len, frs_len, List.length_singleton] at hgl1
              refine SW.region _ _ _ _ ?_
              refine RL.p T ?_
              refine RL.q (QV.vN T rfl rfl rfl rfl rfl (by exact (rfl : _ = [_, _, _, _, _, _, _, _, _, _, _]))) ?_
              refine RL.bs T rfl rfl rfl (by exact (rfl : _ = some [_, _, _, _, _, _, _, _, _, _, _])) (fun b46_1 => ?_)
              refine RL.apS T ([(ls.getD k default)]) (fun a0_ c0_ => ?_)
              refine RL.p T ?_
              refine RL.nil _ _ _ _ ?_
              refine hK19 _ _ _ ?_
              refine SW.seq_k fun K20 hK20 => ?_
              refine SW.seq_k fun K21 hK21 => ?_
              have hne : (pushI (kk + 1) q (ls.getD k default).f) = true := by
                rcases hpc with h | h
                · exact h.1
                · omega
              rw [hne]
              refine SW.region _ _ _ _ ?_
              refine RL.p T ?_
              refine RL.p T ?_
              refine RL.nil _ _ _ _ ?_
              refine hK21 _ _ _ ?_
              refine SW.cs (fun hc4 => ?_) (fun hc4 => ?_)
              ·skip
               first
                | (exfalso; first | omega | contradiction | (simp at *; done))
                | (
                 refine SW.seq_k fun K22 hK22 => ?_
                 refine SW.region _ _ _ _ ?_
                 refine RL.p T ?_
                 refine RL.nil _ _ _ _ ?_
                 refine hK22 _ _ _ ?_
                 refine SW.ret ?_
                 refine retQ.rr (H) ?_
                 clear hK22 K22 hK21 K21 hK20 K20 hK19 K19 hK18 K18 hK17 K17 hK16 K16 hK15 K15 hK14 K14 hK13 K13 hK12 K12 hK11 K11 hK10 K10 hK9 K9 hK8 K8 hK7 K7 hK5 K5 hK4 K4 hK2 K2 hK1 K1 hK0 K0
                 first
                   | exact ⟨rfl, rfl⟩
                   | (refine ⟨boolE ?_, rfl⟩
                      rw [frs_app, haf, hfr]; simp; done)
                   | (refine ⟨boolE ?_, rfl⟩; simp; done)
                 )
              ·skip
               first
                | (exfalso; first | omega | contradiction | (simp at *; done))
                | (
                 refine SW.skip ?_
                 refine hK20 _ _ _ ?_
                 refine SW.seq_k fun K23 hK23 => ?_
                 refine SW.region _ _ _ _ ?_
                 refine RL.p T ?_
                 refine RL.c fun13 (fun hs => flen bq R1 (kk + 1) first n1 0 _ (by repeat first | exact At.head _ _ | assumption | apply At.tail | apply At.app)) ?_
                 rintro _ _ ⟨rfl, e⟩; obtain rfl := e.symm
                 refine RL.p T ?_
                 refine RL.p T ?_
                 refine RL.nil _ _ _ _ ?_
                 refine hK23 _ _ _ ?_
                 refine SW.cs (fun hc5 => ?_) (fun hc5 => ?_)
                 ·skip
                  first
                   | (exfalso; first | omega | contradiction | (simp at *; done))
                   | (
                    refine SW.seq_k fun K24 hK24 => ?_
                    refine SW.region _ _ _ _ ?_
                    refine RL.p T ?_
                    refine RL.c fun15 (fun hs => popU bq R1 (kk + 1) first n1 0 _ (by repeat first | exact At.head _ _ | assumption | apply At.tail | apply At.app) L1 hL1 hn1 (by omega)) ?_
                    rintro _ _ ⟨R2, first2, rfl, e, hL3⟩; obtain rfl := e.symm
                    refine RL.p T ?_
                    refine RL.p T ?_
                    refine RL.p T ?_
                    refine RL.s ?_
                    refine NV.alloc T rfl rfl rfl (by exact (rfl : _ = [_, _, _, _, _, _, _, _, _, _, _])) ?_
                    intro b14_2
                    refine RL.s ?_
                    refine NV.sN T rfl rfl rfl (by exact (rfl : _ = [_, _, _, _, _, _, _, _, _, _, _])) (by exact (rfl : _ = [_, _, _, _, _, _, _, _, _, _, _])) ?_
                    refine RL.p T ?_
                    refine RL.nil _ _ _ _ ?_
                    refine hK24 _ _ _ ?_
                    refine SW.seq_k fun K25 hK25 => ?_
                    refine SW.seq_k fun K26 hK26 => ?_
                    refine SW.region _ _ _ _ ?_
                    refine RL.p T ?_
                    refine RL.p T ?_
                    refine RL.nil _ _ _ _ ?_
                    refine hK26 _ _ _ ?_
                    refine SW.cs (fun hc6 => ?_) (fun hc6 => ?_)
                    ·skip
                     first
                      | (exfalso; first | omega | contradiction | (simp at *; done))
                      | (
                       refine SW.seq_k fun K27 hK27 => ?_
                       refine SW.region _ _ _ _ ?_
                       refine RL.p T ?_
                       refine RL.nil _ _ _ _ ?_
                       refine hK27 _ _ _ ?_
                       refine SW.ret ?_
                       refine retQ.rr (H) ?_
                       clear hK27 K27 hK26 K26 hK25 K25 hK24 K24 hK23 K23 hK21 K21 hK20 K20 hK19 K19 hK18 K18 hK17 K17 hK16 K16 hK15 K15 hK14 K14 hK13 K13 hK12 K12 hK11 K11 hK10 K10 hK9 K9 hK8 K8 hK7 K7 hK5 K5 hK4 K4 hK2 K2 hK1 K1 hK0 K0
                       first
                         | exact ⟨rfl, rfl⟩
                         | (refine ⟨boolE ?_, rfl⟩
                            rw [frs_app, haf, hfr]; simp; done)
                         | (refine ⟨boolE ?_, rfl⟩; simp; done)
                       )
                    ·skip
                     first
                      | (exfalso; first | omega | contradiction | (simp at *; done))
                      | (
                       refine SW.skip ?_
                       refine hK25 _ _ _ ?_
                       refine SW.region _ _ _ _ ?_
                       refine RL.p T ?_
                       refine RL.q (QV.vN T rfl rfl rfl rfl rfl (by exact (rfl : _ = [_, _, _, _, _, _, _, _, _, _, _]))) ?_
                       refine RL.bs T rfl rfl rfl (by exact (rfl : _ = some [_, _, _, _, _, _, _, _, _, _, _])) (fun b63_3 => ?_)
                       refine RL.apS T ([(L1.getD 0 default)]) (fun a1_ c1_ => ?_)
                       refine RL.p T ?_
                       refine RL.nil _ _ _ _ ?_
                       refine hK14 _ _ _ ?_
                       first
                         | refine SW.weaken (fun _ h => satmv h) ?_
                         | refine SW.drop (SW.weaken (fun _ h => satmv h) ?_)
                       refine SW.region _ _ _ _ ?_
                       first | refine RL.ar ?_ | refine RL.p T ?_
                       refine RL.p T ?_
                       refine RL.nil _ _ _ _ ?_
                       first
                         | exact ⟨nr - (k + 1), (by omega), k + 1, R1, first, n1, D1 ++ G, L1, gs, os, am, m, cm, ao, mo, co, (by rfl), ⟨by omega, hL1, hn1, by have := congrArg List.length hbd; rw [frs_len, frs_len] at this; omega, okmix hLo hg1, (fun x hx => (hOo x hx).app), hm, hmo, by rw [goodL_snoc (by omega), if_neg hcx, hgs], by rw [hbd, hfr]⟩, (.cons rfl (.cons rfl (.consI rfl (by first | omega | rfl) (.nil (by repeat first | exact Mx.refl | exact Mx.mix | refine Mx.put rfl ?_ | refine Mx.upd rfl ?_ | refine Mx.updl rfl ?_ | refine Mx.fin rfl ?_ | refine Mx.inner rfl ?_ | refine Mx.none ?_))))), rfl, rfl⟩
                         | exact ⟨nr - (k + 1), (by omega), k + 1, R1, first, n1, D1 ++ G, L1, gs ++ [(ls.getD k default)], os, a0_, m + 1, c0_, ao, mo, co, (by rfl), ⟨by omega, hL1, hn1, by omega, okmix hLo hg1, (fun x hx => (hOo x hx).app), by rw [List.length_append, hm]; rfl, hmo, by rw [goodL_snoc (by omega), if_pos hcx, hgs], by rw [frs_app, hfr, hgd, List.append_assoc]; rfl⟩, (.cons rfl (.cons rfl (.consI rfl (by first | omega | rfl) (.nil (by repeat first | exact Mx.refl | exact Mx.mix | refine Mx.put rfl ?_ | refine Mx.upd rfl ?_ | refine Mx.updl rfl ?_ | refine Mx.fin rfl ?_ | refine Mx.inner rfl ?_ | refine Mx.none ?_))))), rfl, rfl⟩
                         | exact ⟨nr - (k + 1), (by omega), k + 1, R2, first2, n1 - 1, D1 ++ G, L1.tail, gs ++ [(ls.getD k default)], os ++ [(L1.getD 0 default)], a0_, m + 1, c0_, a1_, mo + 1, c1_, (by rfl), ⟨by omega, hL3, by rw [List.length_tail]; omega, by omega, tail_ok (okmix hLo hg1), (fun x hx => (List.mem_append.1 hx).elim (fun h => (hOo x h).app) (fun h => by rw [List.mem_singleton.1 h]; exact getD_mem FsOk.dflt (okmix hLo hg1) 0)), by rw [List.length_append, hm]; rfl, by rw [List.length_append, hmo]; rfl, by rw [goodL_snoc (by omega), if_pos hcx, hgs], by rw [frs_app, hfr, frs_app, List.append_assoc, List.append_assoc]; congr 1; show frs L ++ [(ls.getD k default).f] = [(L1.getD 0 default).f] ++ frs L1.tail; rw [← hgd]; exact frs_cons (by omega)⟩, (.cons rfl (.cons rfl (.consI rfl (by first | omega | rfl) (.nil (by repeat first | exact Mx.refl | exact Mx.mix | refine Mx.put rfl ?_ | refine Mx.upd rfl ?_ | refine Mx.updl rfl ?_ | refine Mx.fin rfl ?_ | refine Mx.inner rfl ?_ | refine Mx.none ?_))))), rfl, rfl⟩
                       )
                    )
                 ·skip
                  first
                   | (exfalso; first | omega | contradiction | (simp at *; done))
                   | (
                    refine SW.skip ?_
                    refine hK14 _ _ _ ?_
                    first
                      | refine SW.weaken (fun _ h => satmv h) ?_
                      | refine SW.drop (SW.weaken (fun _ h => satmv h) ?_)
                    refine SW.region _ _ _ _ ?_
                    first | refine RL.ar ?_ | refine RL.p T ?_
                    refine RL.p T ?_
                    refine RL.nil _ _ _ _ ?_
                    first
                      | exact ⟨nr - (k + 1), (by omega), k + 1, R1, first, n1, D1 ++ G, L1, gs, os, am, m, cm, ao, mo, co, (by rfl), ⟨by omega, hL1, hn1, by have := congrArg List.length hbd; rw [frs_len, frs_len] at this; omega, okmix hLo hg1, (fun x hx => (hOo x hx).app), hm, hmo, by rw [goodL_snoc (by omega), if_neg hcx, hgs], by rw [hbd, hfr]⟩, (.cons rfl (.cons rfl (.consI rfl (by first | omega | rfl) (.nil (by repeat first | exact Mx.refl | exact Mx.mix | refine Mx.put rfl ?_ | refine Mx.upd rfl ?_ | refine Mx.updl rfl ?_ | refine Mx.fin rfl ?_ | refine Mx.inner rfl ?_ | refine Mx.none ?_))))), rfl, rfl⟩
                      | exact ⟨nr - (k + 1), (by omega), k + 1, R1, first, n1, D1 ++ G, L1, gs ++ [(ls.getD k default)], os, a0_, m + 1, c0_, ao, mo, co, (by rfl), ⟨by omega, hL1, hn1, by omega, okmix hLo hg1, (fun x hx => (hOo x hx).app), by rw [List.length_append, hm]; rfl, hmo, by rw [goodL_snoc (by omega), if_pos hcx, hgs], by rw [frs_app, hfr, hgd, List.append_assoc]; rfl⟩, (.cons rfl (.cons rfl (.consI rfl (by first | omega | rfl) (.nil (by repeat first | exact Mx.refl | exact Mx.mix | refine Mx.put rfl ?_ | refine Mx.upd rfl ?_ | refine Mx.updl rfl ?_ | refine Mx.fin rfl ?_ | refine Mx.inner rfl ?_ | refine Mx.none ?_))))), rfl, rfl⟩
                      | exact ⟨nr - (k + 1), (by omega), k + 1, R2, first2, n1 - 1, D1 ++ G, L1.tail, gs ++ [(ls.getD k default)], os ++ [(L1.getD 0 default)], a0_, m + 1, c0_, a1_, mo + 1, c1_, (by rfl), ⟨by omega, hL3, by rw [List.length_tail]; omega, by omega, tail_ok (okmix hLo hg1), (fun x hx => (List.mem_append.1 hx).elim (fun h => (hOo x h).app) (fun h => by rw [List.mem_singleton.1 h]; exact getD_mem FsOk.dflt (okmix hLo hg1) 0)), by rw [List.length_append, hm]; rfl, by rw [List.length_append, hmo]; rfl, by rw [goodL_snoc (by omega), if_pos hcx, hgs], by rw [frs_app, hfr, frs_app, List.append_assoc, List.append_assoc]; congr 1; show frs L ++ [(ls.getD k default).f] = [(L1.getD 0 default).f] ++ frs L1.tail; rw [← hgd]; exact frs_cons (by omega)⟩, (.cons rfl (.cons rfl (.consI rfl (by first | omega | rfl) (.nil (by repeat first | exact Mx.refl | exact Mx.mix | refine Mx.put rfl ?_ | refine Mx.upd rfl ?_ | refine Mx.updl rfl ?_ | refine Mx.fin rfl ?_ | refine Mx.inner rfl ?_ | refine Mx.none ?_))))), rfl, rfl⟩
                    )
                 )
              )
           )
        ·skip
         first
          | (exfalso; first | omega | contradiction | (simp at *; done))
          | (
           refine SW.exit ?_
           refine hK10 _ _ _ ?_
           refine SW.seq_k fun K28 hK28 => ?_
           obtain rfl : nr = k := by omega
           have hgm : ∀ x ∈ gs, ∀ H, FsOk w0 H x := fun x hx H => hls H x (goodL_mem x (by rw [← hgs]; exact hx)).1
           have hgsl : gs.length ≤ ls.length := by rw [hgs]; exact goodL_len ls _
           have hfl := congrArg List.length hfr
           rw [List.length_append, frs_len, frs_len, frs_len] at hfl
           refine SW.region _ _ _ _ ?_
           refine RL.p T ?_
           refine RL.p T ?_
           refine RL.p T ?_
           refine RL.join (fr1 := ?_) 3 68 true [69, 70, 71] (fun hs0 hj => ?_) ?_ ?_
           rotate_left
           ·have hs0j := hs0
            try simp only [decide_eq_true_eq, Bool.not_eq_true', decide_eq_false_iff_not, Bool.not_eq_false', Int.not_lt, Int.not_le, Int.toNat_natCast, Bool.and_eq_true, Bool.or_eq_true, Bool.and_eq_false_iff, Bool.or_eq_false_iff] at hs0
            refine RL.p T ?_
            refine RL.c fun14 (fun hs => fover bq R (kk + 1) first q 0 _ (by repeat first | exact At.head _ _ | assumption | apply At.tail | apply At.app)) ?_
            rintro _ _ ⟨rfl, e⟩; obtain rfl := e.symm
            refine RL.p T ?_
            exact hj
           ·repeat first | exact Mx.refl | exact Mx.mix | refine Mx.put rfl ?_ | refine Mx.upd rfl ?_ | refine Mx.updl rfl ?_ | refine Mx.fin rfl ?_ | refine Mx.inner rfl ?_ | refine Mx.none ?_
           refine RL.and ?_
           refine RL.p T ?_
           refine RL.sp 73 (fun hs1 => ?_) (fun hs1 => ?_)
           ·skip
            first
             | (exfalso; first | omega | contradiction | (simp at *; done))
             | (
              refine RL.p T ?_
              refine RL.p T ?_
              refine RL.c fun18 (fun hs => fall bq R (kk + 1) first q 0 _ (by repeat first | exact At.head _ _ | assumption | apply At.tail | apply At.app) L hL hq (fun x hx => (hLo x hx).appr.cons)) ?_
              rintro _ _ ⟨a7, c7, al, rfl, hal, haf, han, e⟩; obtain rfl := e.symm
              refine RL.apR T (os) (enc := FsC) (fun a2_ c2_ => ?_)
              refine RL.p T ?_
              refine RL.c fun17 (fun hs => sames (os ++ al) gs _ am _ _ m cm (Rd.rowh hs (by repeat first | exact At.head _ _ | apply At.tail | apply At.app)) (Rd.rowh hs (by repeat first | exact At.head _ _ | apply At.tail | apply At.app)) (by rw [List.length_append, hmo, hal]) hm (by omega) (by omega) (fun x hx => (List.mem_append.1 hx).elim (fun h => (hOo x h).appr.cons.app.cons) (fun h => (al_ok hLo haf han (satl (sat1 hs)) x h).appr.cons)) (fun x hx => hgm x hx _)) ?_
              rintro _ _ ⟨rfl, e⟩; obtain rfl := e.symm
              refine RL.p T ?_
              refine RL.p T ?_
              refine RL.nil _ _ _ _ ?_
              refine hK28 _ _ _ ?_
              refine SW.ret ?_
              refine retQ.rr (H) ?_
              clear hK28 K28 hK13 K13 hK12 K12 hK11 K11 hK10 K10 hK9 K9 hK8 K8 hK7 K7 hK5 K5 hK4 K4 hK2 K2 hK1 K1 hK0 K0
              first
                | exact ⟨rfl, rfl⟩
                | (refine ⟨boolE ?_, rfl⟩
                   rw [frs_app, haf, hfr]; simp; done)
                | (refine ⟨boolE ?_, rfl⟩; simp; done)
              )
           ·skip
            first
             | (exfalso; first | omega | contradiction | (simp at *; done))
             | (
              refine RL.guard_no rfl rfl rfl ?_
              refine RL.guard_no rfl rfl rfl ?_
              refine RL.guard_no rfl rfl rfl ?_
              refine RL.guard_no rfl rfl rfl ?_
              refine RL.guard_no rfl rfl rfl ?_
              refine RL.guard_no rfl rfl rfl ?_
              refine RL.p T ?_
              refine RL.p T ?_
              refine RL.nil _ _ _ _ ?_
              refine hK28 _ _ _ ?_
              refine SW.ret ?_
              refine retQ.rr (H) ?_
              clear hK28 K28 hK13 K13 hK12 K12 hK11 K11 hK10 K10 hK9 K9 hK8 K8 hK7 K7 hK5 K5 hK4 K4 hK2 K2 hK1 K1 hK0 K0
              first
                | exact ⟨rfl, rfl⟩
                | (refine ⟨boolE ?_, rfl⟩
                   rw [frs_app, haf, hfr]; simp; done)
                | (refine ⟨boolE ?_, rfl⟩; simp; done)
              )
           )
       )
    )
theorem fifoTurnsI {w0 : World} {H : List Chunk} (ls : List Fs) (sr : Option Addr) (nr cr : Nat) (hB : ∀ H, Rd w0 H sr nr cr 11 (ls.flatMap FsC)) (hnr : nr = ls.length) (hmr : nr ≤ 4398046511000) (hls : ∀ H, ∀ x ∈ ls, FsOk w0 H x) (w : Int) (h0 : 0 ≤ w) (h1 : w ≤ 255) : SC Try.prog w0 5 #[.slice sr nr cr, .int .u8 w] H (fun v H' => v = .bool true ∧ H' = H) := by
  obtain ⟨q, rfl⟩ := Int.eq_ofNat_of_zero_le h0
  exact fifoTurns ls sr nr cr hB hnr hmr hls q (by omega)
end Go.Proofs.Ytojghialjpianaa.M
