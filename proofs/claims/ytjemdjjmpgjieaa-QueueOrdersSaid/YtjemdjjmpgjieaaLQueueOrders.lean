import Derived.Test.YtjemdjjmpgjieaaProg
import Derived.Test.YtjemdjjmpgjieaaFL14
import Derived.Test.YtjemdjjmpgjieaaS37
import Derived.Test.YtjemdjjmpgjieaaP14b
set_option linter.unusedVariables false
set_option linter.unusedSimpArgs false
namespace Go.Proofs.Ytjemdjjmpgjieaa.M
open Go Go.Sep Go.Proofs
set_option maxRecDepth 10000
set_option maxHeartbeats 2000000
theorem it_get {out : List It} {i : Nat} (h : i < out.length) : out[i]? = some (out.getD i default) := by rw [List.getD_eq_getElem?_getD, List.getElem?_eq_getElem h]; rfl
theorem it_mem {out : List It} {i : Nat} (h : i < out.length) : out.getD i default ∈ out := List.mem_of_getElem? (it_get h)
theorem it_map {out : List It} {S : List En} {i : Nat} (h : out.map itP = S.map enP) (hi : i < out.length) : (out.getD i default).no = (gE S i).no ∧ (out.getD i default).fs.f = (gE S i).fs.f := by
  have hl : out.length = S.length := by have := congrArg List.length h; simpa using this
  have := congrArg (fun l => l[i]?) h
  simp only [List.getElem?_map] at this
  rw [it_get hi, gE_get (by omega)] at this
  have e := Option.some.inj this
  exact ⟨congrArg Prod.fst e, congrArg Prod.snd e⟩
theorem cmpI_le {x y : Int} : (cmpI x y ≤ 0 ↔ x ≤ y) ∧ (cmpI x y = 0 ↔ x = y) := by
  unfold cmpI; split <;> (try split) <;> omega
theorem queueOrders {w0 : World} {H : List Chunk} (ls : List Fs) (sr : Option Addr) (nr cr : Nat) (hB : ∀ H, Rd w0 H sr nr cr 11 (ls.flatMap FsC)) (hnr : nr = ls.length) (hmr : nr ≤ 4398046511000) (hls : ∀ H, ∀ y ∈ ls, FsOk w0 H y) : SC Try.prog w0 7 #[.slice sr nr cr] H (fun v H' => v = .bool true ∧ H' = H) := by
 refine SC.enter Try.func7 rfl (Nat.le_of_ble_eq_true rfl) ?_
 refine SW.seq_k fun K0 hK0 => ?_
 refine SW.region _ _ _ _ ?_
 refine RL.p T ?_
 refine RL.nil _ _ _ _ ?_
 refine hK0 _ _ _ ?_
 refine SW.seq_k fun K1 hK1 => ?_
 refine SW.seq_k fun K2 hK2 => ?_
 refine SW.region _ _ _ _ ?_
 refine RL.c fun9 (fun hs => alive) ?_
 rintro _ _ ⟨rfl, e⟩; obtain rfl := e.symm
 refine RL.p T ?_
 refine RL.nil _ _ _ _ ?_
 refine hK2 _ _ _ ?_
 refine SW.cs (fun hc0 => ?_) (fun hc0 => ?_)
 ·skip
  first
   | (exfalso; first | omega | contradiction | (clear hK2 K2; clear hK1 K1; clear hK0 K0; simp at *; done))
   | (
    refine SW.seq_k fun K3 hK3 => ?_
    refine SW.region _ _ _ _ ?_
    refine RL.p T ?_
    refine RL.nil _ _ _ _ ?_
    refine hK3 _ _ _ ?_
    refine SW.ret ?_
    refine retQ.rr (H) ?_
    clear hK3 K3 hK2 K2 hK1 K1 hK0 K0
    first
      | exact ⟨rfl, rfl⟩
      | exact ⟨boolE (decide_eq_true (by omega)), rfl⟩
    )
 ·skip
  first
   | (exfalso; first | omega | contradiction | (clear hK2 K2; clear hK1 K1; clear hK0 K0; simp at *; done))
   | (
    refine SW.skip ?_
    refine hK1 _ _ _ ?_
    refine SW.seq_k fun K4 hK4 => ?_
    refine SW.seq_k fun K5 hK5 => ?_
    refine SW.region _ _ _ _ ?_
    refine RL.p T ?_
    refine RL.p T ?_
    refine RL.p T ?_
    refine RL.nil _ _ _ _ ?_
    refine hK5 _ _ _ ?_
    refine SW.cs (fun hc1 => ?_) (fun hc1 => ?_)
    ·skip
     first
      | (exfalso; first | omega | contradiction | (clear hK5 K5; clear hK4 K4; clear hK2 K2; clear hK1 K1; clear hK0 K0; simp at *; done))
      | (
       refine SW.seq_k fun K6 hK6 => ?_
       refine SW.region _ _ _ _ ?_
       refine RL.p T ?_
       refine RL.nil _ _ _ _ ?_
       refine hK6 _ _ _ ?_
       refine SW.ret ?_
       refine retQ.rr (H) ?_
       clear hK6 K6 hK5 K5 hK4 K4 hK2 K2 hK1 K1 hK0 K0
       first
         | exact ⟨rfl, rfl⟩
         | exact ⟨boolE (decide_eq_true (by omega)), rfl⟩
       )
    ·skip
     first
      | (exfalso; first | omega | contradiction | (clear hK5 K5; clear hK4 K4; clear hK2 K2; clear hK1 K1; clear hK0 K0; simp at *; done))
      | (
       refine SW.skip ?_
       refine hK4 _ _ _ ?_
       refine SW.seq_k fun K7 hK7 => ?_
       refine SW.region _ _ _ _ ?_
       refine RL.p T ?_
       refine RL.c fun27 (fun hs => fill ls sr nr cr hB hnr hmr hls (by omega)) ?_
       rintro _ _ ⟨bq, a, n, c, L, G, rfl, e, hnL, hn64, hqi0⟩; obtain rfl := e.symm
       refine RL.p T ?_
       refine RL.p T ?_
       refine RL.p T ?_
       refine RL.p T ?_
       refine RL.p T ?_
       refine RL.nil _ _ _ _ ?_
       refine hK7 _ _ _ ?_
       refine SW.seq_k fun K8 hK8 => ?_
       refine SW.region _ _ _ _ ?_
       refine RL.p T ?_
       refine RL.c fun26 (fun hs => SC.wk (qall bq 64 (n : Nat) a n c L hnL (by omega) (fun q hq => (hqi0.fs q hq).appr) (H := G ++ H))) ?_
       rintro _ _ ⟨oa, oc, out, S, G2, rfl, hol, hpm, hst, hop, hog, e⟩; obtain rfl := e.symm
       have hSl : S.length = n := hpm.length_eq.trans hnL.symm
       have hSn := perm_nd hpm hqi0.nd
       have hSo := fun e he => hqi0.ok e (hpm.mem_iff.1 he)
       refine RL.p T ?_
       refine RL.nil _ _ _ _ ?_
       refine hK8 _ _ _ ?_
       refine SW.seq_k fun K9 hK9 => ?_
       refine SW.seq_k fun K10 hK10 => ?_
       refine SW.region _ _ _ _ ?_
       refine RL.p T ?_
       refine RL.p T ?_
       refine RL.p T ?_
       refine RL.p T ?_
       refine RL.p T ?_
       refine RL.sp 33 (fun hs0 => ?_) (fun hs0 => ?_)
       ·skip
        first
         | (exfalso; first | omega | contradiction | (clear hK10 K10; clear hK9 K9; clear hK8 K8; clear hK7 K7; clear hK5 K5; clear hK4 K4; clear hK2 K2; clear hK1 K1; clear hK0 K0; simp at *; done))
         | (
          refine RL.guard_no rfl rfl rfl ?_
          refine RL.guard_no rfl rfl rfl ?_
          refine RL.guard_no rfl rfl rfl ?_
          refine RL.guard_no rfl rfl rfl ?_
          refine RL.p T ?_
          refine RL.nil _ _ _ _ ?_
          refine hK10 _ _ _ ?_
          refine SW.cond_t rfl ?_
          refine SW.seq_k fun K11 hK11 => ?_
          refine SW.region _ _ _ _ ?_
          refine RL.p T ?_
          refine RL.nil _ _ _ _ ?_
          refine hK11 _ _ _ ?_
          refine SW.ret ?_
          refine retQ.rr (H) ?_
          clear hK11 K11 hK10 K10 hK9 K9 hK8 K8 hK7 K7 hK5 K5 hK4 K4 hK2 K2 hK1 K1 hK0 K0
          first
            | exact ⟨rfl, rfl⟩
            | exact ⟨boolE (decide_eq_true (by omega)), rfl⟩
          )
       ·skip
        first
         | (exfalso; first | omega | contradiction | (clear hK10 K10; clear hK9 K9; clear hK8 K8; clear hK7 K7; clear hK5 K5; clear hK4 K4; clear hK2 K2; clear hK1 K1; clear hK0 K0; simp at *; done))
         | (
          refine RL.p T ?_
          refine RL.c fun13 (fun hs => SC.wk (qlen bq 64 (n : Nat) a n c (H := .row a n c 80 13 (List.flatMap EnC (L)) :: .row oa n oc 37 12 (List.flatMap ItC out) :: (G2 ++ (G ++ H))))) ?_
          rintro _ _ ⟨rfl, e⟩; obtain rfl := e.symm
          refine RL.p T ?_
          refine RL.p T ?_
          refine RL.p T ?_
          refine RL.nil _ _ _ _ ?_
          refine hK10 _ _ _ ?_
          refine SW.cs (fun hc2 => ?_) (fun hc2 => ?_)
          ·skip
           first
            | (exfalso; first | omega | contradiction | (clear hK10 K10; clear hK9 K9; clear hK8 K8; clear hK7 K7; clear hK5 K5; clear hK4 K4; clear hK2 K2; clear hK1 K1; clear hK0 K0; simp at *; done))
            | (
             refine SW.seq_k fun K12 hK12 => ?_
             refine SW.region _ _ _ _ ?_
             refine RL.p T ?_
             refine RL.nil _ _ _ _ ?_
             refine hK12 _ _ _ ?_
             refine SW.ret ?_
             refine retQ.rr (H) ?_
             clear hK12 K12 hK10 K10 hK9 K9 hK8 K8 hK7 K7 hK5 K5 hK4 K4 hK2 K2 hK1 K1 hK0 K0
             first
               | exact ⟨rfl, rfl⟩
               | exact ⟨boolE (decide_eq_true (by omega)), rfl⟩
             )
          ·skip
           first
            | (exfalso; first | omega | contradiction | (clear hK10 K10; clear hK9 K9; clear hK8 K8; clear hK7 K7; clear hK5 K5; clear hK4 K4; clear hK2 K2; clear hK1 K1; clear hK0 K0; simp at *; done))
            | (
             refine SW.skip ?_
             refine hK9 _ _ _ ?_
             refine SW.seq_k fun K13 hK13 => ?_
             refine SW.seq_k fun K14 hK14 => ?_
             refine SW.region _ _ _ _ ?_
             refine RL.p T ?_
             refine RL.p T ?_
             refine RL.wk (.var bq 73 [.int .i64 64, .int .i64 (n : Nat), .slice a (n - 0) c] :: .row a (n - 0) c 80 13 (List.flatMap EnC (L)) :: .row oa n oc 37 12 (List.flatMap ItC out) :: (G2 ++ (G ++ H))) ?_
             refine RL.nil _ _ _ _ ?_
             refine hK14 _ _ _ ?_
             refine SW.block ?_
             refine SW.loopM (fun frB mm fr ds HH => ∃ (k : Nat) (M : List En), mm = n - k ∧ (k ≤ n ∧ (n - k = M.length ∧ M.Perm (S.drop k) ∧ QI w0 M (n : Nat) G)) ∧ FrIs [2, 6, 7, 8, 9, 10, 11, 12, 40, 41, 42, 43, 44, 45, 46, 47, 48, 49, 50, 51, 52, 53, 54, 55, 56, 57, 58, 59, 60, 61, 62, 63, 64, 65, 66, 67, 68, 69, 70, 71, 72, 73, 74, 75, 76, 77, 78, 79, 80, 81, 82, 83, 84, 85, 86, 87, 88, 89, 90, 91, 92, 93, 94, 95, 96, 97, 98, 99, 100, 101, 102, 103, 104, 105, 106, 107, 108, 109, 110, 111, 112, 113, 114, 115, 116, 117, 118, 119, 120, 121, 122, 123, 124, 125, 126, 127, 128, 129, 130, 131, 132, 133] frB fr [(40, .int .i64 k)] ∧ ds = [] ∧ HH = (.var bq 73 [.int .i64 64, .int .i64 (n : Nat), .slice a (n - k) c] :: .row a (n - k) c 80 13 (List.flatMap EnC (M)) :: .row oa n oc 37 12 (List.flatMap ItC out) :: (G2 ++ (G ++ H)))) (n := n - 0) ?_ ?_
             ·exact ⟨0, L, rfl, ⟨Nat.zero_le _, ⟨hnL, hpm.symm, hqi0⟩⟩, (.cons rfl (.nil (by repeat first | with_reducible exact Mx.refl | with_reducible exact Mx.mix | refine Mx.put rfl ?_ | refine Mx.upd rfl ?_ | refine Mx.updl rfl ?_ | refine Mx.fin rfl ?_ | refine Mx.inner rfl ?_ | refine Mx.none ?_ | exact Mx.refl | exact Mx.mix))), rfl, rfl⟩
             ·rintro mm fr ds HH ⟨k, M, rfl, ⟨hk, ⟨hMl, hMp, hqi⟩⟩, hFr, rfl, eHH⟩
              obtain rfl := eHH.symm
              obtain ⟨frU, rfl⟩ := hFr.eq
              clear hFr
              refine SW.seq_k fun K15 hK15 => ?_
              refine SW.region _ _ _ _ ?_
              refine RL.p T ?_
              refine RL.nil _ _ _ _ ?_
              refine hK15 _ _ _ ?_
              refine SW.seq_k fun K16 hK16 => ?_
              refine SW.cs (fun hc3 => ?_) (fun hc3 => ?_)
              ·skip
               first
                | (exfalso; first | omega | contradiction | (clear hK16 K16; clear hK15 K15; clear hK14 K14; clear hK13 K13; clear hK10 K10; clear hK9 K9; clear hK8 K8; clear hK7 K7; clear hK5 K5; clear hK4 K4; clear hK2 K2; clear hK1 K1; clear hK0 K0; simp at *; done))
                | (
                 refine SW.skip ?_
                 refine hK16 _ _ _ ?_
                 refine SW.seq_k fun K17 hK17 => ?_
                 refine SW.block ?_
                 refine SW.seq_k fun K18 hK18 => ?_
                 refine SW.region _ _ _ _ ?_
                 refine RL.p T ?_
                 refine RL.p T ?_
                 refine RL.nil _ _ _ _ ?_
                 refine hK18 _ _ _ ?_
                 refine SW.seq_k fun K19 hK19 => ?_
                 obtain ⟨hpn1, hpn2⟩ := pop_next hqi.heap hqi.nd hst hMp (by omega)
                 have hqi2 := hqi.pop (by omega)
                 rw [← hMl] at hpn2 hqi2
                 obtain ⟨hoi1, hoi2⟩ := it_map hop (i := k) (by omega)
                 rw [← hpn1] at hoi1 hoi2
                 obtain ⟨hx1, hx2, hx3, hx4, hx5⟩ := hqi.ok _ (gE_in (L := M) (i := 0) (by omega))
                 have hoy := hog _ (it_mem (i := k) (by omega))
                 have hsm : sameF (gE M 0).fs.f (out.getD k default).fs.f = true := by rw [hoi2]; exact sameF_refl _
                 refine SW.region _ _ _ _ ?_
                 refine RL.p T ?_
                 refine RL.c fun21 (fun hs => SC.wk (head_ok bq 64 (n : Nat) a (n - k) c M hMl (by omega) (by omega) (hx5.sub SubL.by) (H := .row oa n oc 37 12 (List.flatMap ItC out) :: (G2 ++ (G ++ H))))) ?_
                 rintro _ _ ⟨p1, s1, rfl, e⟩; obtain rfl := e.symm
                 refine RL.p T ?_
                 refine RL.p T ?_
                 refine RL.p T ?_
                 refine RL.s ?_
                 refine NV.alloc T rfl rfl rfl (by exact (rfl : _ = [_, _, _, _, _, _, _, _, _, _, _, _])) ?_
                 intro b7_0
                 refine RL.s ?_
                 refine NV.sN T rfl rfl rfl (by exact (rfl : _ = [_, _, _, _, _, _, _, _, _, _, _, _])) (by exact (rfl : _ = [_, _, _, _, _, _, _, _, _, _, _, _])) ?_
                 refine RL.p T ?_
                 refine RL.nil _ _ _ _ ?_
                 refine hK19 _ _ _ ?_
                 refine SW.seq_k fun K20 hK20 => ?_
                 refine SW.region _ _ _ _ ?_
                 refine RL.p T ?_
                 refine RL.c fun14 (fun hs => SC.wk (take_ok bq 64 (n : Nat) a (n - k) c M hMl (by omega) (by omega) (hx5.sub SubL.by) (H := .var b7_0 37 [.int .i64 (gE M 0).no, .int .i64 (gE M 0).fs.f.kind, .int .u32 (gE M 0).fs.f.id, .bool (gE M 0).fs.f.ext, .bool (gE M 0).fs.f.rtr, .bool (gE M 0).fs.f.brs, .bool (gE M 0).fs.f.esi, .bool (gE M 0).fs.f.sec, .int .u8 (gE M 0).fs.f.sdt, .int .u8 (gE M 0).fs.f.vcid, .int .u32 (gE M 0).fs.f.af, .slice p1 (gE M 0).fs.f.data.length s1] :: .row oa n oc 37 12 (List.flatMap ItC out) :: (G2 ++ (G ++ H))))) ?_
                 rintro _ _ ⟨p2, s2, rfl, e⟩; obtain rfl := e.symm
                 refine RL.sat (fun hs => ?_)
                 have hX : FsOk w0 [.row p2 (gE M 0).fs.f.data.length s2 5 1 ((gE M 0).fs.f.data.map (.int .u8))] (⟨(gE M 0).fs.f, p2, (gE M 0).fs.f.data.length, s2⟩ : Fs) := ⟨rfl, Nat.le_trans (Nat.le_of_eq hx5.len.symm) hx5.max, hx5.ok, Rd.rowh (satT (H0 := [.row p2 (gE M 0).fs.f.data.length s2 5 1 ((gE M 0).fs.f.data.map (.int .u8))]) hs) (At.head _ _)⟩
                 clear hs
                 refine RL.p T ?_
                 refine RL.p T ?_
                 refine RL.p T ?_
                 refine RL.s ?_
                 refine NV.alloc T rfl rfl rfl (by exact (rfl : _ = [_, _, _, _, _, _, _, _, _, _, _, _])) ?_
                 intro b9_1
                 refine RL.s ?_
                 refine NV.sN T rfl rfl rfl (by exact (rfl : _ = [_, _, _, _, _, _, _, _, _, _, _, _])) (by exact (rfl : _ = [_, _, _, _, _, _, _, _, _, _, _, _])) ?_
                 refine RL.p T ?_
                 refine RL.nil _ _ _ _ ?_
                 refine hK20 _ _ _ ?_
                 refine SW.seq_k fun K21 hK21 => ?_
                 refine SW.seq_k fun K22 hK22 => ?_
                 refine SW.drawQ [(53, 0), (54, 1), (55, 2), (56, 3), (57, 4), (58, 5), (59, 6), (60, 7), (61, 8), (62, 9), (63, 10), (64, 11), (65, 12), (66, 13), (67, 14), (68, 15), (69, 16), (70, 17), (71, 18), (72, 19), (73, 20), (74, 21), (75, 22), (76, 23), (77, 24), (78, 25), (79, 26), (80, 27), (81, 28), (82, 29), (83, 30), (84, 31), (85, 32), (86, 33), (87, 34), (88, 35), (89, 36), (90, 37), (91, 38), (92, 39), (93, 40), (94, 41), (95, 42), (96, 43), (97, 44)] [[], [0], [1, 0], [2, 1, 0], [3, 2, 1, 0], [2, 1, 0, 4, 3], [5, 2, 1, 0, 4, 3], [6, 5, 2, 1, 0, 4, 3], [7, 6, 5, 2, 1, 0, 4, 3], [6, 5, 2, 1, 0, 4, 3], [6, 5, 2, 1, 0, 4, 3], [9, 6, 5, 2, 1, 0, 4, 3, 10], [11, 9, 6, 5, 2, 1, 0, 4, 3, 10], [12, 11, 9, 6, 5, 2, 1, 0, 4, 3, 10], [8, 7, 6, 5, 2, 1, 0, 4, 3, 13, 12, 11, 9, 10], [6, 5, 2, 1, 0, 4, 3, 14, 8, 7, 13, 12, 11, 9, 10], [15, 6, 5, 2, 1, 0, 4, 3, 14, 8, 7, 13, 12, 11, 9, 10], [16, 15, 6, 5, 2, 1, 0, 4, 3, 14, 8, 7, 13, 12, 11, 9, 10], [17, 16, 15, 6, 5, 2, 1, 0, 4, 3, 14, 8, 7, 13, 12, 11, 9, 10], [16, 15, 6, 5, 2, 1, 0, 4, 3, 14, 8, 7, 13, 12, 11, 9, 10], [19, 16, 15, 6, 5, 2, 1, 0, 4, 3, 14, 8, 7, 13, 12, 11, 9, 10], [18, 17, 16, 15, 6, 5, 2, 1, 0, 4, 3, 14, 8, 7, 13, 12, 11, 9, 10, 20, 19], [16, 15, 6, 5, 2, 1, 0, 4, 3, 14, 8, 7, 13, 12, 11, 9, 10, 21, 18, 17, 20, 19], [22, 16, 15, 6, 5, 2, 1, 0, 4, 3, 14, 8, 7, 13, 12, 11, 9, 10, 21, 18, 17, 20, 19], [23, 22, 16, 15, 6, 5, 2, 1, 0, 4, 3, 14, 8, 7, 13, 12, 11, 9, 10, 21, 18, 17, 20, 19], [24, 23, 22, 16, 15, 6, 5, 2, 1, 0, 4, 3, 14, 8, 7, 13, 12, 11, 9, 10, 21, 18, 17, 20, 19], [23, 22, 16, 15, 6, 5, 2, 1, 0, 4, 3, 14, 8, 7, 13, 12, 11, 9, 10, 21, 18, 17, 20, 19], [23, 22, 16, 15, 6, 5, 2, 1, 0, 4, 3, 14, 8, 7, 13, 12, 11, 9, 10, 21, 18, 17, 20, 19], [26, 23, 22, 16, 15, 6, 5, 2, 1, 0, 4, 3, 14, 8, 7, 13, 12, 11, 9, 10, 21, 18, 17, 20, 19, 27], [28, 26, 23, 22, 16, 15, 6, 5, 2, 1, 0, 4, 3, 14, 8, 7, 13, 12, 11, 9, 10, 21, 18, 17, 20, 19, 27], [29, 28, 26, 23, 22, 16, 15, 6, 5, 2, 1, 0, 4, 3, 14, 8, 7, 13, 12, 11, 9, 10, 21, 18, 17, 20, 19, 27], [25, 24, 23, 22, 16, 15, 6, 5, 2, 1, 0, 4, 3, 14, 8, 7, 13, 12, 11, 9, 10, 21, 18, 17, 20, 19, 30, 29, 28, 26, 27], [31, 25, 24, 23, 22, 16, 15, 6, 5, 2, 1, 0, 4, 3, 14, 8, 7, 13, 12, 11, 9, 10, 21, 18, 17, 20, 19, 30, 29, 28, 26, 27], [23, 22, 16, 15, 6, 5, 2, 1, 0, 4, 3, 14, 8, 7, 13, 12, 11, 9, 10, 21, 18, 17, 20, 19, 32, 31, 25, 24, 30, 29, 28, 26, 27], [33, 23, 22, 16, 15, 6, 5, 2, 1, 0, 4, 3, 14, 8, 7, 13, 12, 11, 9, 10, 21, 18, 17, 20, 19, 32, 31, 25, 24, 30, 29, 28, 26, 27], [34, 33, 23, 22, 16, 15, 6, 5, 2, 1, 0, 4, 3, 14, 8, 7, 13, 12, 11, 9, 10, 21, 18, 17, 20, 19, 32, 31, 25, 24, 30, 29, 28, 26, 27], [35, 34, 33, 23, 22, 16, 15, 6, 5, 2, 1, 0, 4, 3, 14, 8, 7, 13, 12, 11, 9, 10, 21, 18, 17, 20, 19, 32, 31, 25, 24, 30, 29, 28, 26, 27], [36, 35, 34, 33, 23, 22, 16, 15, 6, 5, 2, 1, 0, 4, 3, 14, 8, 7, 13, 12, 11, 9, 10, 21, 18, 17, 20, 19, 32, 31, 25, 24, 30, 29, 28, 26, 27], [34, 33, 23, 22, 16, 15, 6, 5, 2, 1, 0, 4, 3, 14, 8, 7, 13, 12, 11, 9, 10, 21, 18, 17, 20, 19, 32, 31, 25, 24, 30, 29, 28, 26, 27, 37, 36, 35], [38, 34, 33, 23, 22, 16, 15, 6, 5, 2, 1, 0, 4, 3, 14, 8, 7, 13, 12, 11, 9, 10, 21, 18, 17, 20, 19, 32, 31, 25, 24, 30, 29, 28, 26, 27, 37, 36, 35], [39, 38, 34, 33, 23, 22, 16, 15, 6, 5, 2, 1, 0, 4, 3, 14, 8, 7, 13, 12, 11, 9, 10, 21, 18, 17, 20, 19, 32, 31, 25, 24, 30, 29, 28, 26, 27, 37, 36, 35], [40, 39, 38, 34, 33, 23, 22, 16, 15, 6, 5, 2, 1, 0, 4, 3, 14, 8, 7, 13, 12, 11, 9, 10, 21, 18, 17, 20, 19, 32, 31, 25, 24, 30, 29, 28, 26, 27, 37, 36, 35], [39, 38, 34, 33, 23, 22, 16, 15, 6, 5, 2, 1, 0, 4, 3, 14, 8, 7, 13, 12, 11, 9, 10, 21, 18, 17, 20, 19, 32, 31, 25, 24, 30, 29, 28, 26, 27, 37, 36, 35], [41, 40, 39, 38, 34, 33, 23, 22, 16, 15, 6, 5, 2, 1, 0, 4, 3, 14, 8, 7, 13, 12, 11, 9, 10, 21, 18, 17, 20, 19, 32, 31, 25, 24, 30, 29, 28, 26, 27, 37, 36, 35, 42], [39, 38, 34, 33, 23, 22, 16, 15, 6, 5, 2, 1, 0, 4, 3, 14, 8, 7, 13, 12, 11, 9, 10, 21, 18, 17, 20, 19, 32, 31, 25, 24, 30, 29, 28, 26, 27, 37, 36, 35, 43, 41, 40, 42]] mixed (by kernel_rfl) (by kernel_rfl) ?_
                 refine QL.p T ?_
                 refine QL.p T ?_
                 refine QL.p T ?_
                 refine QL.sp 55 (fun hs1 => ?_) (fun hs1 => ?_)
                 ·skip
                  first
                   | (exfalso; first | omega | contradiction | (clear hK22 K22; clear hK21 K21; clear hK20 K20; clear hK19 K19; clear hK18 K18; clear hK17 K17; clear hK16 K16; clear hK15 K15; clear hK14 K14; clear hK13 K13; clear hK10 K10; clear hK9 K9; clear hK8 K8; clear hK7 K7; clear hK5 K5; clear hK4 K4; clear hK2 K2; clear hK1 K1; clear hK0 K0; simp at *; done))
                   | (
                    refine QL.skip rfl rfl ?_
                    refine QL.skip rfl rfl ?_
                    refine QL.p T ?_
                    refine QL.p T ?_
                    refine QL.skip rfl rfl ?_
                    refine QL.skip rfl rfl ?_
                    refine QL.skip rfl rfl ?_
                    refine QL.skip rfl rfl ?_
                    refine QL.skip rfl rfl ?_
                    refine QL.skip rfl rfl ?_
                    refine QL.skip rfl rfl ?_
                    refine QL.skip rfl rfl ?_
                    refine QL.p T ?_
                    refine QL.p T ?_
                    refine QL.skip rfl rfl ?_
                    refine QL.skip rfl rfl ?_
                    refine QL.skip rfl rfl ?_
                    refine QL.skip rfl rfl ?_
                    refine QL.skip rfl rfl ?_
                    refine QL.p T ?_
                    refine QL.p T ?_
                    refine QL.skip rfl rfl ?_
                    refine QL.skip rfl rfl ?_
                    refine QL.skip rfl rfl ?_
                    refine QL.skip rfl rfl ?_
                    refine QL.skip rfl rfl ?_
                    refine QL.skip rfl rfl ?_
                    refine QL.skip rfl rfl ?_
                    refine QL.skip rfl rfl ?_
                    refine QL.skip rfl rfl ?_
                    refine QL.p T ?_
                    refine QL.p T ?_
                    refine QL.skip rfl rfl ?_
                    refine QL.skip rfl rfl ?_
                    refine QL.skip rfl rfl ?_
                    refine QL.p T ?_
                    refine QL.p T ?_
                    refine QL.skip rfl rfl ?_
                    refine QL.skip rfl rfl ?_
                    refine QL.skip rfl rfl ?_
                    refine QL.skip rfl rfl ?_
                    refine QL.p T ?_
                    refine QL.nil ?_
                    refine hK22 _ _ _ ?_
                    refine SW.cond_t rfl ?_
                    refine SW.seq_k fun K23 hK23 => ?_
                    refine SW.region _ _ _ _ ?_
                    refine RL.p T ?_
                    refine RL.nil _ _ _ _ ?_
                    refine hK23 _ _ _ ?_
                    refine SW.ret ?_
                    refine retQ.rr (H) ?_
                    clear hK23 K23 hK22 K22 hK21 K21 hK20 K20 hK19 K19 hK18 K18 hK17 K17 hK16 K16 hK15 K15 hK14 K14 hK13 K13 hK10 K10 hK9 K9 hK8 K8 hK7 K7 hK5 K5 hK4 K4 hK2 K2 hK1 K1 hK0 K0
                    first
                      | exact ⟨rfl, rfl⟩
                      | exact ⟨boolE (decide_eq_true (by omega)), rfl⟩
                    )
                 ·skip
                  first
                   | (exfalso; first | omega | contradiction | (clear hK22 K22; clear hK21 K21; clear hK20 K20; clear hK19 K19; clear hK18 K18; clear hK17 K17; clear hK16 K16; clear hK15 K15; clear hK14 K14; clear hK13 K13; clear hK10 K10; clear hK9 K9; clear hK8 K8; clear hK7 K7; clear hK5 K5; clear hK4 K4; clear hK2 K2; clear hK1 K1; clear hK0 K0; simp at *; done))
                   | (
                    refine QL.p T ?_
                    refine QL.p T ?_
                    refine QL.p T ?_
                    refine QL.p T ?_
                    refine QL.sp 59 (fun hs2 => ?_) (fun hs2 => ?_)
                    ·skip
                     first
                      | (exfalso; first | omega | contradiction | (clear hK22 K22; clear hK21 K21; clear hK20 K20; clear hK19 K19; clear hK18 K18; clear hK17 K17; clear hK16 K16; clear hK15 K15; clear hK14 K14; clear hK13 K13; clear hK10 K10; clear hK9 K9; clear hK8 K8; clear hK7 K7; clear hK5 K5; clear hK4 K4; clear hK2 K2; clear hK1 K1; clear hK0 K0; simp at *; done))
                      | (
                       refine QL.skip rfl rfl ?_
                       refine QL.skip rfl rfl ?_
                       refine QL.skip rfl rfl ?_
                       refine QL.skip rfl rfl ?_
                       refine QL.skip rfl rfl ?_
                       refine QL.skip rfl rfl ?_
                       refine QL.skip rfl rfl ?_
                       refine QL.skip rfl rfl ?_
                       refine QL.p T ?_
                       refine QL.p T ?_
                       refine QL.skip rfl rfl ?_
                       refine QL.skip rfl rfl ?_
                       refine QL.skip rfl rfl ?_
                       refine QL.skip rfl rfl ?_
                       refine QL.skip rfl rfl ?_
                       refine QL.p T ?_
                       refine QL.p T ?_
                       refine QL.skip rfl rfl ?_
                       refine QL.skip rfl rfl ?_
                       refine QL.skip rfl rfl ?_
                       refine QL.skip rfl rfl ?_
                       refine QL.skip rfl rfl ?_
                       refine QL.skip rfl rfl ?_
                       refine QL.skip rfl rfl ?_
                       refine QL.skip rfl rfl ?_
                       refine QL.skip rfl rfl ?_
                       refine QL.p T ?_
                       refine QL.p T ?_
                       refine QL.skip rfl rfl ?_
                       refine QL.skip rfl rfl ?_
                       refine QL.skip rfl rfl ?_
                       refine QL.p T ?_
                       refine QL.p T ?_
                       refine QL.skip rfl rfl ?_
                       refine QL.skip rfl rfl ?_
                       refine QL.skip rfl rfl ?_
                       refine QL.skip rfl rfl ?_
                       refine QL.p T ?_
                       refine QL.nil ?_
                       refine hK22 _ _ _ ?_
                       refine SW.cond_t rfl ?_
                       refine SW.seq_k fun K24 hK24 => ?_
                       refine SW.region _ _ _ _ ?_
                       refine RL.p T ?_
                       refine RL.nil _ _ _ _ ?_
                       refine hK24 _ _ _ ?_
                       refine SW.ret ?_
                       refine retQ.rr (H) ?_
                       clear hK24 K24 hK22 K22 hK21 K21 hK20 K20 hK19 K19 hK18 K18 hK17 K17 hK16 K16 hK15 K15 hK14 K14 hK13 K13 hK10 K10 hK9 K9 hK8 K8 hK7 K7 hK5 K5 hK4 K4 hK2 K2 hK1 K1 hK0 K0
                       first
                         | exact ⟨rfl, rfl⟩
                         | exact ⟨boolE (decide_eq_true (by omega)), rfl⟩
                       )
                    ·skip
                     first
                      | (exfalso; first | omega | contradiction | (clear hK22 K22; clear hK21 K21; clear hK20 K20; clear hK19 K19; clear hK18 K18; clear hK17 K17; clear hK16 K16; clear hK15 K15; clear hK14 K14; clear hK13 K13; clear hK10 K10; clear hK9 K9; clear hK8 K8; clear hK7 K7; clear hK5 K5; clear hK4 K4; clear hK2 K2; clear hK1 K1; clear hK0 K0; simp at *; done))
                      | (
                       refine QL.p T ?_
                       refine QL.lv1 T ?_
                       refine QL.p T ?_
                       refine QL.p T ?_
                       refine QL.ix T ?_
                       refine QL.p T ?_
                       refine QL.leF (enc := ItC) (rs := out) T ?_ (hR := fun hs => (Rd.rowh hs (by repeat first | exact At.head _ _ | apply At.tail | apply At.app))) (hq := it_get (i := k) (by omega))
                       refine QL.p T ?_
                       refine QL.p T ?_
                       refine QL.p T ?_
                       refine QL.sp 69 (fun hs3 => ?_) (fun hs3 => ?_)
                       ·skip
                        first
                         | (exfalso; first | omega | contradiction | (clear hK22 K22; clear hK21 K21; clear hK20 K20; clear hK19 K19; clear hK18 K18; clear hK17 K17; clear hK16 K16; clear hK15 K15; clear hK14 K14; clear hK13 K13; clear hK10 K10; clear hK9 K9; clear hK8 K8; clear hK7 K7; clear hK5 K5; clear hK4 K4; clear hK2 K2; clear hK1 K1; clear hK0 K0; simp at *; done))
                         | (
                          refine QL.skip rfl rfl ?_
                          refine QL.skip rfl rfl ?_
                          refine QL.skip rfl rfl ?_
                          refine QL.skip rfl rfl ?_
                          refine QL.skip rfl rfl ?_
                          refine QL.p T ?_
                          refine QL.p T ?_
                          refine QL.skip rfl rfl ?_
                          refine QL.skip rfl rfl ?_
                          refine QL.skip rfl rfl ?_
                          refine QL.skip rfl rfl ?_
                          refine QL.skip rfl rfl ?_
                          refine QL.skip rfl rfl ?_
                          refine QL.skip rfl rfl ?_
                          refine QL.skip rfl rfl ?_
                          refine QL.skip rfl rfl ?_
                          refine QL.p T ?_
                          refine QL.p T ?_
                          refine QL.skip rfl rfl ?_
                          refine QL.skip rfl rfl ?_
                          refine QL.skip rfl rfl ?_
                          refine QL.p T ?_
                          refine QL.p T ?_
                          refine QL.skip rfl rfl ?_
                          refine QL.skip rfl rfl ?_
                          refine QL.skip rfl rfl ?_
                          refine QL.skip rfl rfl ?_
                          refine QL.p T ?_
                          refine QL.nil ?_
                          refine hK22 _ _ _ ?_
                          refine SW.cond_t rfl ?_
                          refine SW.seq_k fun K25 hK25 => ?_
                          refine SW.region _ _ _ _ ?_
                          refine RL.p T ?_
                          refine RL.nil _ _ _ _ ?_
                          refine hK25 _ _ _ ?_
                          refine SW.ret ?_
                          refine retQ.rr (H) ?_
                          clear hK25 K25 hK22 K22 hK21 K21 hK20 K20 hK19 K19 hK18 K18 hK17 K17 hK16 K16 hK15 K15 hK14 K14 hK13 K13 hK10 K10 hK9 K9 hK8 K8 hK7 K7 hK5 K5 hK4 K4 hK2 K2 hK1 K1 hK0 K0
                          first
                            | exact ⟨rfl, rfl⟩
                            | exact ⟨boolE (decide_eq_true (by omega)), rfl⟩
                          )
                       ·skip
                        first
                         | (exfalso; first | omega | contradiction | (clear hK22 K22; clear hK21 K21; clear hK20 K20; clear hK19 K19; clear hK18 K18; clear hK17 K17; clear hK16 K16; clear hK15 K15; clear hK14 K14; clear hK13 K13; clear hK10 K10; clear hK9 K9; clear hK8 K8; clear hK7 K7; clear hK5 K5; clear hK4 K4; clear hK2 K2; clear hK1 K1; clear hK0 K0; simp at *; done))
                         | (
                          refine QL.p T ?_
                          refine QL.lv1 T ?_
                          refine QL.p T ?_
                          refine QL.lv1 T ?_
                          refine QL.p T ?_
                          refine QL.p T ?_
                          refine QL.p T ?_
                          refine QL.sp 76 (fun hs4 => ?_) (fun hs4 => ?_)
                          ·skip
                           first
                            | (exfalso; first | omega | contradiction | (clear hK22 K22; clear hK21 K21; clear hK20 K20; clear hK19 K19; clear hK18 K18; clear hK17 K17; clear hK16 K16; clear hK15 K15; clear hK14 K14; clear hK13 K13; clear hK10 K10; clear hK9 K9; clear hK8 K8; clear hK7 K7; clear hK5 K5; clear hK4 K4; clear hK2 K2; clear hK1 K1; clear hK0 K0; simp at *; done))
                            | (
                             refine QL.skip rfl rfl ?_
                             refine QL.skip rfl rfl ?_
                             refine QL.skip rfl rfl ?_
                             refine QL.skip rfl rfl ?_
                             refine QL.skip rfl rfl ?_
                             refine QL.skip rfl rfl ?_
                             refine QL.skip rfl rfl ?_
                             refine QL.skip rfl rfl ?_
                             refine QL.skip rfl rfl ?_
                             refine QL.p T ?_
                             refine QL.p T ?_
                             refine QL.skip rfl rfl ?_
                             refine QL.skip rfl rfl ?_
                             refine QL.skip rfl rfl ?_
                             refine QL.p T ?_
                             refine QL.p T ?_
                             refine QL.skip rfl rfl ?_
                             refine QL.skip rfl rfl ?_
                             refine QL.skip rfl rfl ?_
                             refine QL.skip rfl rfl ?_
                             refine QL.p T ?_
                             refine QL.nil ?_
                             refine hK22 _ _ _ ?_
                             refine SW.cond_t rfl ?_
                             refine SW.seq_k fun K26 hK26 => ?_
                             refine SW.region _ _ _ _ ?_
                             refine RL.p T ?_
                             refine RL.nil _ _ _ _ ?_
                             refine hK26 _ _ _ ?_
                             refine SW.ret ?_
                             refine retQ.rr (H) ?_
                             clear hK26 K26 hK22 K22 hK21 K21 hK20 K20 hK19 K19 hK18 K18 hK17 K17 hK16 K16 hK15 K15 hK14 K14 hK13 K13 hK10 K10 hK9 K9 hK8 K8 hK7 K7 hK5 K5 hK4 K4 hK2 K2 hK1 K1 hK0 K0
                             first
                               | exact ⟨rfl, rfl⟩
                               | exact ⟨boolE (decide_eq_true (by omega)), rfl⟩
                             )
                          ·skip
                           first
                            | (exfalso; first | omega | contradiction | (clear hK22 K22; clear hK21 K21; clear hK20 K20; clear hK19 K19; clear hK18 K18; clear hK17 K17; clear hK16 K16; clear hK15 K15; clear hK14 K14; clear hK13 K13; clear hK10 K10; clear hK9 K9; clear hK8 K8; clear hK7 K7; clear hK5 K5; clear hK4 K4; clear hK2 K2; clear hK1 K1; clear hK0 K0; simp at *; done))
                            | (
                             refine QL.p T ?_
                             refine QL.q (QV.vN T rfl rfl rfl rfl rfl (by exact (rfl : _ = [_, _, _, _, _, _, _, _, _, _, _]))) ?_
                             refine QL.p T ?_
                             refine QL.p T ?_
                             refine QL.ix T ?_
                             refine QL.p T ?_
                             refine QL.leS (enc := ItC) (rs := out) (vs := [_, _, _, _, _, _, _, _, _, _, _]) T ?_ (hR := fun hs => (Rd.rowh hs (by repeat first | exact At.head _ _ | apply At.tail | apply At.app))) (hq := it_get (i := k) (by omega)) (hvs := rfl)
                             refine QL.c fun29 (fun hs => (fsame (gE M 0).fs.f p2 (gE M 0).fs.f.data.length s2 (hX.sub SubL.by).rd hX.len hX.max hX.ok (out.getD k default).fs.f (out.getD k default).fs.a (out.getD k default).fs.n (out.getD k default).fs.c (hoy.sub SubL.by).rd hoy.len hoy.max hoy.ok).mono (fun v H' h => by rw [hsm] at h; exact h)) ?_
                             refine QL.p T ?_
                             refine QL.p T ?_
                             refine QL.p T ?_
                             refine QL.sp 87 (fun hs5 => ?_) (fun hs5 => ?_)
                             ·skip
                              first
                               | (exfalso; first | omega | contradiction | (clear hK22 K22; clear hK21 K21; clear hK20 K20; clear hK19 K19; clear hK18 K18; clear hK17 K17; clear hK16 K16; clear hK15 K15; clear hK14 K14; clear hK13 K13; clear hK10 K10; clear hK9 K9; clear hK8 K8; clear hK7 K7; clear hK5 K5; clear hK4 K4; clear hK2 K2; clear hK1 K1; clear hK0 K0; simp at *; done))
                               | (
                                refine QL.skip rfl rfl ?_
                                refine QL.skip rfl rfl ?_
                                refine QL.skip rfl rfl ?_
                                refine QL.p T ?_
                                refine QL.p T ?_
                                refine QL.skip rfl rfl ?_
                                refine QL.skip rfl rfl ?_
                                refine QL.skip rfl rfl ?_
                                refine QL.skip rfl rfl ?_
                                refine QL.p T ?_
                                refine QL.nil ?_
                                refine hK22 _ _ _ ?_
                                refine SW.cond_t rfl ?_
                                refine SW.seq_k fun K27 hK27 => ?_
                                refine SW.region _ _ _ _ ?_
                                refine RL.p T ?_
                                refine RL.nil _ _ _ _ ?_
                                refine hK27 _ _ _ ?_
                                refine SW.ret ?_
                                refine retQ.rr (H) ?_
                                clear hK27 K27 hK22 K22 hK21 K21 hK20 K20 hK19 K19 hK18 K18 hK17 K17 hK16 K16 hK15 K15 hK14 K14 hK13 K13 hK10 K10 hK9 K9 hK8 K8 hK7 K7 hK5 K5 hK4 K4 hK2 K2 hK1 K1 hK0 K0
                                first
                                  | exact ⟨rfl, rfl⟩
                                  | exact ⟨boolE (decide_eq_true (by omega)), rfl⟩
                                )
                             ·skip
                              first
                               | (exfalso; first | omega | contradiction | (clear hK22 K22; clear hK21 K21; clear hK20 K20; clear hK19 K19; clear hK18 K18; clear hK17 K17; clear hK16 K16; clear hK15 K15; clear hK14 K14; clear hK13 K13; clear hK10 K10; clear hK9 K9; clear hK8 K8; clear hK7 K7; clear hK5 K5; clear hK4 K4; clear hK2 K2; clear hK1 K1; clear hK0 K0; simp at *; done))
                               | (
                                refine QL.p T ?_
                                refine QL.lv1 T ?_
                                refine QL.p T ?_
                                refine QL.p T ?_
                                refine QL.p T ?_
                                refine QL.sp 92 (fun hs6 => ?_) (fun hs6 => ?_)
                                ·skip
                                 first
                                  | (exfalso; first | omega | contradiction | (clear hK22 K22; clear hK21 K21; clear hK20 K20; clear hK19 K19; clear hK18 K18; clear hK17 K17; clear hK16 K16; clear hK15 K15; clear hK14 K14; clear hK13 K13; clear hK10 K10; clear hK9 K9; clear hK8 K8; clear hK7 K7; clear hK5 K5; clear hK4 K4; clear hK2 K2; clear hK1 K1; clear hK0 K0; simp at *; done))
                                  | (
                                   refine QL.skip rfl rfl ?_
                                   refine QL.skip rfl rfl ?_
                                   refine QL.skip rfl rfl ?_
                                   refine QL.skip rfl rfl ?_
                                   refine QL.p T ?_
                                   refine QL.nil ?_
                                   refine hK22 _ _ _ ?_
                                   refine SW.cond_t rfl ?_
                                   refine SW.seq_k fun K28 hK28 => ?_
                                   refine SW.region _ _ _ _ ?_
                                   refine RL.p T ?_
                                   refine RL.nil _ _ _ _ ?_
                                   refine hK28 _ _ _ ?_
                                   refine SW.ret ?_
                                   refine retQ.rr (H) ?_
                                   clear hK28 K28 hK22 K22 hK21 K21 hK20 K20 hK19 K19 hK18 K18 hK17 K17 hK16 K16 hK15 K15 hK14 K14 hK13 K13 hK10 K10 hK9 K9 hK8 K8 hK7 K7 hK5 K5 hK4 K4 hK2 K2 hK1 K1 hK0 K0
                                   first
                                     | exact ⟨rfl, rfl⟩
                                     | exact ⟨boolE (decide_eq_true (by omega)), rfl⟩
                                   )
                                ·skip
                                 first
                                  | (exfalso; first | omega | contradiction | (clear hK22 K22; clear hK21 K21; clear hK20 K20; clear hK19 K19; clear hK18 K18; clear hK17 K17; clear hK16 K16; clear hK15 K15; clear hK14 K14; clear hK13 K13; clear hK10 K10; clear hK9 K9; clear hK8 K8; clear hK7 K7; clear hK5 K5; clear hK4 K4; clear hK2 K2; clear hK1 K1; clear hK0 K0; simp at *; done))
                                  | (
                                   refine QL.p T ?_
                                   refine QL.lv1 T ?_
                                   refine QL.p T ?_
                                   refine QL.p T ?_
                                   refine QL.p T ?_
                                   refine QL.nil ?_
                                   refine hK22 _ _ _ ?_
                                   refine SW.cs (fun hc4 => ?_) (fun hc4 => ?_)
                                   ·skip
                                    first
                                     | (exfalso; first | omega | contradiction | (clear hK22 K22; clear hK21 K21; clear hK20 K20; clear hK19 K19; clear hK18 K18; clear hK17 K17; clear hK16 K16; clear hK15 K15; clear hK14 K14; clear hK13 K13; clear hK10 K10; clear hK9 K9; clear hK8 K8; clear hK7 K7; clear hK5 K5; clear hK4 K4; clear hK2 K2; clear hK1 K1; clear hK0 K0; simp at *; done))
                                     | (
                                      refine SW.seq_k fun K29 hK29 => ?_
                                      refine SW.region _ _ _ _ ?_
                                      refine RL.p T ?_
                                      refine RL.nil _ _ _ _ ?_
                                      refine hK29 _ _ _ ?_
                                      refine SW.ret ?_
                                      refine retQ.rr (H) ?_
                                      clear hK29 K29 hK22 K22 hK21 K21 hK20 K20 hK19 K19 hK18 K18 hK17 K17 hK16 K16 hK15 K15 hK14 K14 hK13 K13 hK10 K10 hK9 K9 hK8 K8 hK7 K7 hK5 K5 hK4 K4 hK2 K2 hK1 K1 hK0 K0
                                      first
                                        | exact ⟨rfl, rfl⟩
                                        | exact ⟨boolE (decide_eq_true (by omega)), rfl⟩
                                      )
                                   ·skip
                                    first
                                     | (exfalso; first | omega | contradiction | (clear hK22 K22; clear hK21 K21; clear hK20 K20; clear hK19 K19; clear hK18 K18; clear hK17 K17; clear hK16 K16; clear hK15 K15; clear hK14 K14; clear hK13 K13; clear hK10 K10; clear hK9 K9; clear hK8 K8; clear hK7 K7; clear hK5 K5; clear hK4 K4; clear hK2 K2; clear hK1 K1; clear hK0 K0; simp at *; done))
                                     | (
                                      refine SW.skip ?_
                                      refine hK21 _ _ _ ?_
                                      refine SW.seq_k fun K30 hK30 => ?_
                                      refine SW.seq_k fun K31 hK31 => ?_
                                      refine SW.region _ _ _ _ ?_
                                      refine RL.p T ?_
                                      refine RL.p T ?_
                                      refine RL.nil _ _ _ _ ?_
                                      refine hK31 _ _ _ ?_
                                      refine SW.cs (fun hc5 => ?_) (fun hc5 => ?_)
                                      ·skip
                                       first
                                        | (exfalso; first | omega | contradiction | (clear hK31 K31; clear hK30 K30; clear hK22 K22; clear hK21 K21; clear hK20 K20; clear hK19 K19; clear hK18 K18; clear hK17 K17; clear hK16 K16; clear hK15 K15; clear hK14 K14; clear hK13 K13; clear hK10 K10; clear hK9 K9; clear hK8 K8; clear hK7 K7; clear hK5 K5; clear hK4 K4; clear hK2 K2; clear hK1 K1; clear hK0 K0; simp at *; done))
                                        | (
                                         refine SW.exit ?_
                                         refine hK17 _ _ _ ?_
                                         refine SW.region _ _ _ _ ?_
                                         first | refine RL.ar ?_ | refine RL.p T ?_
                                         refine RL.p T ?_
                                         refine RL.wk (.var bq 73 [.int .i64 64, .int .i64 (n : Nat), .slice a (n - (k + 1)) c] :: .row a (n - (k + 1)) c 80 13 (List.flatMap EnC ((popL M).take (n - k - 1))) :: .row oa n oc 37 12 (List.flatMap ItC out) :: (G2 ++ (G ++ H))) ?_
                                         refine RL.nil _ _ _ _ ?_
                                         exact ⟨n - (k + 1), (by omega), k + 1, (popL M).take (n - k - 1), (by rfl), ⟨by omega, ⟨by rw [List.length_take, popL_len]; omega, hpn2, hqi2⟩⟩, (.cons rfl (.nil (by repeat first | with_reducible exact Mx.refl | with_reducible exact Mx.mix | refine Mx.put rfl ?_ | refine Mx.upd rfl ?_ | refine Mx.updl rfl ?_ | refine Mx.fin rfl ?_ | refine Mx.inner rfl ?_ | refine Mx.none ?_ | exact Mx.refl | exact Mx.mix))), rfl, rfl⟩
                                         )
                                      ·skip
                                       first
                                        | (exfalso; first | omega | contradiction | (clear hK31 K31; clear hK30 K30; clear hK22 K22; clear hK21 K21; clear hK20 K20; clear hK19 K19; clear hK18 K18; clear hK17 K17; clear hK16 K16; clear hK15 K15; clear hK14 K14; clear hK13 K13; clear hK10 K10; clear hK9 K9; clear hK8 K8; clear hK7 K7; clear hK5 K5; clear hK4 K4; clear hK2 K2; clear hK1 K1; clear hK0 K0; simp at *; done))
                                        | (
                                         refine SW.skip ?_
                                         refine hK30 _ _ _ ?_
                                         refine SW.seq_k fun K32 hK32 => ?_
                                         have hk0 : 0 < k := by omega
                                         obtain ⟨hpi1, hpi2⟩ := it_map hop (i := k - 1) (by omega)
                                         have hpy := hog _ (it_mem (i := k - 1) (by omega))
                                         obtain ⟨_, _, hy3, hy4, _⟩ := hSo _ (gE_in (L := S) (i := k - 1) (by omega))
                                         have hss := sorted_strict hSn hst (i := k - 1) (j := k) (by omega) (by omega)
                                         rw [← hpn1, hy3, hx3, ← hpi2, ← hpi1] at hss
                                         rw [← hpi2] at hy4
                                         obtain ⟨hc7, hc8⟩ := cmpI_le (x := keyF (out.getD (k - 1) default).fs.f) (y := keyF (gE M 0).fs.f)
                                         refine SW.drawQ [(101, 0), (102, 1), (103, 2), (104, 3), (105, 4), (106, 5), (107, 6), (108, 7), (109, 8), (100, 9), (110, 10), (111, 11), (11, 12), (12, 13)] [[], [], [1], [0, 2, 1], [3, 0, 2, 1], [4, 3, 0, 2, 1], [], [6], [5, 4, 3, 0, 2, 1, 7, 6], [8, 5, 4, 3, 0, 2, 1, 7, 6], [9, 8, 5, 4, 3, 0, 2, 1, 7, 6], [9, 8, 5, 4, 3, 0, 2, 1, 7, 6], [10, 9, 8, 5, 4, 3, 0, 2, 1, 7, 6], [11, 9, 8, 5, 4, 3, 0, 2, 1, 7, 6, 12, 10]] mixed (by kernel_rfl) (by kernel_rfl) ?_
                                         refine QL.p T ?_
                                         refine QL.p T ?_
                                         refine QL.q (QV.as (QV.arith rfl rfl rfl rfl (by omega) (by omega)) (show _ = Value.int .i64 ((k - 1 : Nat) : Int) from congrArg _ (by omega))) ?_
                                         refine QL.ix T ?_
                                         refine QL.p T ?_
                                         refine QL.leS (enc := ItC) (rs := out) (vs := [_, _, _, _, _, _, _, _, _, _, _]) T ?_ (hR := fun hs => (Rd.rowh hs (by repeat first | exact At.head _ _ | apply At.tail | apply At.app))) (hq := it_get (i := k - 1) (by omega)) (hvs := rfl)
                                         refine QL.p T ?_
                                         refine QL.q (QV.vN T rfl rfl rfl rfl rfl (by exact (rfl : _ = [_, _, _, _, _, _, _, _, _, _, _]))) ?_
                                         refine QL.c fun30 (fun hs => compareF (out.getD (k - 1) default).fs (⟨(gE M 0).fs.f, p2, (gE M 0).fs.f.data.length, s2⟩ : Fs) (hpy.sub SubL.by) (hX.sub SubL.by) hy4 hx4) ?_
                                         refine QL.p T ?_
                                         refine QL.p T ?_
                                         refine QL.p T ?_
                                         refine QL.p T ?_
                                         refine QL.p T ?_
                                         refine QL.nil ?_
                                         refine hK32 _ _ _ ?_
                                         refine SW.seq_k fun K33 hK33 => ?_
                                         refine SW.drawQ [(112, 0), (113, 1), (114, 2), (115, 3), (116, 4), (117, 5), (118, 6), (119, 7), (120, 8), (121, 9), (122, 10), (123, 11), (124, 12), (125, 13), (126, 14), (127, 15), (128, 16), (129, 17), (130, 18), (131, 19), (132, 20)] [[], [0], [1, 0], [2, 1, 0], [3, 2, 1, 0], [2, 1, 0, 4, 3], [5, 2, 1, 0, 4, 3], [6, 5, 2, 1, 0, 4, 3], [7, 6, 5, 2, 1, 0, 4, 3], [8, 7, 6, 5, 2, 1, 0, 4, 3], [9, 8, 7, 6, 5, 2, 1, 0, 4, 3], [9, 8, 7, 6, 5, 2, 1, 0, 4, 3], [11, 9, 8, 7, 6, 5, 2, 1, 0, 4, 3], [10, 9, 8, 7, 6, 5, 2, 1, 0, 4, 3, 12, 11], [13, 10, 9, 8, 7, 6, 5, 2, 1, 0, 4, 3, 12, 11], [14, 13, 10, 9, 8, 7, 6, 5, 2, 1, 0, 4, 3, 12, 11], [9, 8, 7, 6, 5, 2, 1, 0, 4, 3], [16, 9, 8, 7, 6, 5, 2, 1, 0, 4, 3], [15, 14, 13, 10, 9, 8, 7, 6, 5, 2, 1, 0, 4, 3, 12, 11, 17, 16], [9, 8, 7, 6, 5, 2, 1, 0, 4, 3, 18, 15, 14, 13, 10, 12, 11, 17, 16], [6, 5, 2, 1, 0, 4, 3, 19, 9, 8, 7, 18, 15, 14, 13, 10, 12, 11, 17, 16]] mixed (by kernel_rfl) (by kernel_rfl) ?_
                                         refine QL.p T ?_
                                         refine QL.p T ?_
                                         refine QL.p T ?_
                                         refine QL.sp 114 (fun hs7 => ?_) (fun hs7 => ?_)
                                         ·skip
                                          first
                                           | (exfalso; first | omega | contradiction | (clear hK33 K33; clear hK32 K32; clear hK31 K31; clear hK30 K30; clear hK22 K22; clear hK21 K21; clear hK20 K20; clear hK19 K19; clear hK18 K18; clear hK17 K17; clear hK16 K16; clear hK15 K15; clear hK14 K14; clear hK13 K13; clear hK10 K10; clear hK9 K9; clear hK8 K8; clear hK7 K7; clear hK5 K5; clear hK4 K4; clear hK2 K2; clear hK1 K1; clear hK0 K0; simp at *; done))
                                           | (
                                            refine QL.skip rfl rfl ?_
                                            refine QL.skip rfl rfl ?_
                                            refine QL.p T ?_
                                            refine QL.p T ?_
                                            refine QL.skip rfl rfl ?_
                                            refine QL.skip rfl rfl ?_
                                            refine QL.skip rfl rfl ?_
                                            refine QL.skip rfl rfl ?_
                                            refine QL.skip rfl rfl ?_
                                            refine QL.skip rfl rfl ?_
                                            refine QL.skip rfl rfl ?_
                                            refine QL.skip rfl rfl ?_
                                            refine QL.skip rfl rfl ?_
                                            refine QL.skip rfl rfl ?_
                                            refine QL.skip rfl rfl ?_
                                            refine QL.skip rfl rfl ?_
                                            refine QL.skip rfl rfl ?_
                                            refine QL.p T ?_
                                            refine QL.nil ?_
                                            refine hK33 _ _ _ ?_
                                            refine SW.cond_t rfl ?_
                                            refine SW.seq_k fun K34 hK34 => ?_
                                            refine SW.region _ _ _ _ ?_
                                            refine RL.p T ?_
                                            refine RL.nil _ _ _ _ ?_
                                            refine hK34 _ _ _ ?_
                                            refine SW.ret ?_
                                            refine retQ.rr (H) ?_
                                            clear hK34 K34 hK33 K33 hK32 K32 hK31 K31 hK30 K30 hK22 K22 hK21 K21 hK20 K20 hK19 K19 hK18 K18 hK17 K17 hK16 K16 hK15 K15 hK14 K14 hK13 K13 hK10 K10 hK9 K9 hK8 K8 hK7 K7 hK5 K5 hK4 K4 hK2 K2 hK1 K1 hK0 K0
                                            first
                                              | exact ⟨rfl, rfl⟩
                                              | exact ⟨boolE (decide_eq_true (by omega)), rfl⟩
                                            )
                                         ·skip
                                          first
                                           | (exfalso; first | omega | contradiction | (clear hK33 K33; clear hK32 K32; clear hK31 K31; clear hK30 K30; clear hK22 K22; clear hK21 K21; clear hK20 K20; clear hK19 K19; clear hK18 K18; clear hK17 K17; clear hK16 K16; clear hK15 K15; clear hK14 K14; clear hK13 K13; clear hK10 K10; clear hK9 K9; clear hK8 K8; clear hK7 K7; clear hK5 K5; clear hK4 K4; clear hK2 K2; clear hK1 K1; clear hK0 K0; simp at *; done))
                                           | (
                                            refine QL.p T ?_
                                            refine QL.p T ?_
                                            refine QL.p T ?_
                                            refine QL.p T ?_
                                            refine QL.sp 118 (fun hs8 => ?_) (fun hs8 => ?_)
                                            ·skip
                                             first
                                              | (exfalso; first | omega | contradiction | (clear hK33 K33; clear hK32 K32; clear hK31 K31; clear hK30 K30; clear hK22 K22; clear hK21 K21; clear hK20 K20; clear hK19 K19; clear hK18 K18; clear hK17 K17; clear hK16 K16; clear hK15 K15; clear hK14 K14; clear hK13 K13; clear hK10 K10; clear hK9 K9; clear hK8 K8; clear hK7 K7; clear hK5 K5; clear hK4 K4; clear hK2 K2; clear hK1 K1; clear hK0 K0; simp at *; done))
                                              | (
                                               refine QL.skip rfl rfl ?_
                                               refine QL.skip rfl rfl ?_
                                               refine QL.skip rfl rfl ?_
                                               refine QL.skip rfl rfl ?_
                                               refine QL.skip rfl rfl ?_
                                               refine QL.skip rfl rfl ?_
                                               refine QL.skip rfl rfl ?_
                                               refine QL.skip rfl rfl ?_
                                               refine QL.skip rfl rfl ?_
                                               refine QL.skip rfl rfl ?_
                                               refine QL.skip rfl rfl ?_
                                               refine QL.skip rfl rfl ?_
                                               refine QL.skip rfl rfl ?_
                                               refine QL.p T ?_
                                               refine QL.nil ?_
                                               refine hK33 _ _ _ ?_
                                               refine SW.cond_t rfl ?_
                                               refine SW.seq_k fun K35 hK35 => ?_
                                               refine SW.region _ _ _ _ ?_
                                               refine RL.p T ?_
                                               refine RL.nil _ _ _ _ ?_
                                               refine hK35 _ _ _ ?_
                                               refine SW.ret ?_
                                               refine retQ.rr (H) ?_
                                               clear hK35 K35 hK33 K33 hK32 K32 hK31 K31 hK30 K30 hK22 K22 hK21 K21 hK20 K20 hK19 K19 hK18 K18 hK17 K17 hK16 K16 hK15 K15 hK14 K14 hK13 K13 hK10 K10 hK9 K9 hK8 K8 hK7 K7 hK5 K5 hK4 K4 hK2 K2 hK1 K1 hK0 K0
                                               first
                                                 | exact ⟨rfl, rfl⟩
                                                 | exact ⟨boolE (decide_eq_true (by omega)), rfl⟩
                                               )
                                            ·skip
                                             first
                                              | (exfalso; first | omega | contradiction | (clear hK33 K33; clear hK32 K32; clear hK31 K31; clear hK30 K30; clear hK22 K22; clear hK21 K21; clear hK20 K20; clear hK19 K19; clear hK18 K18; clear hK17 K17; clear hK16 K16; clear hK15 K15; clear hK14 K14; clear hK13 K13; clear hK10 K10; clear hK9 K9; clear hK8 K8; clear hK7 K7; clear hK5 K5; clear hK4 K4; clear hK2 K2; clear hK1 K1; clear hK0 K0; simp at *; done))
                                              | (
                                               refine QL.p T ?_
                                               refine QL.p T ?_
                                               refine QL.p T ?_
                                               refine QL.sp 121 (fun hs9 => ?_) (fun hs9 => ?_)
                                               ·skip
                                                first
                                                 | (exfalso; first | omega | contradiction | (clear hK33 K33; clear hK32 K32; clear hK31 K31; clear hK30 K30; clear hK22 K22; clear hK21 K21; clear hK20 K20; clear hK19 K19; clear hK18 K18; clear hK17 K17; clear hK16 K16; clear hK15 K15; clear hK14 K14; clear hK13 K13; clear hK10 K10; clear hK9 K9; clear hK8 K8; clear hK7 K7; clear hK5 K5; clear hK4 K4; clear hK2 K2; clear hK1 K1; clear hK0 K0; simp at *; done))
                                                 | (
                                                  refine QL.p T ?_
                                                  refine QL.p T ?_
                                                  refine QL.q (QV.as (QV.arith rfl rfl rfl rfl (by omega) (by omega)) (show _ = Value.int .i64 ((k - 1 : Nat) : Int) from congrArg _ (by omega))) ?_
                                                  refine QL.ix T ?_
                                                  refine QL.p T ?_
                                                  refine QL.leF (enc := ItC) (rs := out) T ?_ (hR := fun hs => (Rd.rowh hs (by repeat first | exact At.head _ _ | apply At.tail | apply At.app))) (hq := it_get (i := k - 1) (by omega))
                                                  refine QL.p T ?_
                                                  refine QL.lv1 T ?_
                                                  refine QL.p T ?_
                                                  refine QL.p T ?_
                                                  refine QL.p T ?_
                                                  refine QL.nil ?_
                                                  refine hK33 _ _ _ ?_
                                                  refine SW.cs (fun hc6 => ?_) (fun hc6 => ?_)
                                                  ·skip
                                                   first
                                                    | (exfalso; first | omega | contradiction | (clear hK33 K33; clear hK32 K32; clear hK31 K31; clear hK30 K30; clear hK22 K22; clear hK21 K21; clear hK20 K20; clear hK19 K19; clear hK18 K18; clear hK17 K17; clear hK16 K16; clear hK15 K15; clear hK14 K14; clear hK13 K13; clear hK10 K10; clear hK9 K9; clear hK8 K8; clear hK7 K7; clear hK5 K5; clear hK4 K4; clear hK2 K2; clear hK1 K1; clear hK0 K0; simp at *; done))
                                                    | (
                                                     refine SW.seq_k fun K36 hK36 => ?_
                                                     refine SW.region _ _ _ _ ?_
                                                     refine RL.p T ?_
                                                     refine RL.nil _ _ _ _ ?_
                                                     refine hK36 _ _ _ ?_
                                                     refine SW.ret ?_
                                                     refine retQ.rr (H) ?_
                                                     clear hK36 K36 hK33 K33 hK32 K32 hK31 K31 hK30 K30 hK22 K22 hK21 K21 hK20 K20 hK19 K19 hK18 K18 hK17 K17 hK16 K16 hK15 K15 hK14 K14 hK13 K13 hK10 K10 hK9 K9 hK8 K8 hK7 K7 hK5 K5 hK4 K4 hK2 K2 hK1 K1 hK0 K0
                                                     first
                                                       | exact ⟨rfl, rfl⟩
                                                       | exact ⟨boolE (decide_eq_true (by omega)), rfl⟩
                                                     )
                                                  ·skip
                                                   first
                                                    | (exfalso; first | omega | contradiction | (clear hK33 K33; clear hK32 K32; clear hK31 K31; clear hK30 K30; clear hK22 K22; clear hK21 K21; clear hK20 K20; clear hK19 K19; clear hK18 K18; clear hK17 K17; clear hK16 K16; clear hK15 K15; clear hK14 K14; clear hK13 K13; clear hK10 K10; clear hK9 K9; clear hK8 K8; clear hK7 K7; clear hK5 K5; clear hK4 K4; clear hK2 K2; clear hK1 K1; clear hK0 K0; simp at *; done))
                                                    | (
                                                     refine SW.skip ?_
                                                     refine hK17 _ _ _ ?_
                                                     refine SW.region _ _ _ _ ?_
                                                     first | refine RL.ar ?_ | refine RL.p T ?_
                                                     refine RL.p T ?_
                                                     refine RL.wk (.var bq 73 [.int .i64 64, .int .i64 (n : Nat), .slice a (n - (k + 1)) c] :: .row a (n - (k + 1)) c 80 13 (List.flatMap EnC ((popL M).take (n - k - 1))) :: .row oa n oc 37 12 (List.flatMap ItC out) :: (G2 ++ (G ++ H))) ?_
                                                     refine RL.nil _ _ _ _ ?_
                                                     exact ⟨n - (k + 1), (by omega), k + 1, (popL M).take (n - k - 1), (by rfl), ⟨by omega, ⟨by rw [List.length_take, popL_len]; omega, hpn2, hqi2⟩⟩, (.cons rfl (.nil (by repeat first | with_reducible exact Mx.refl | with_reducible exact Mx.mix | refine Mx.put rfl ?_ | refine Mx.upd rfl ?_ | refine Mx.updl rfl ?_ | refine Mx.fin rfl ?_ | refine Mx.inner rfl ?_ | refine Mx.none ?_ | exact Mx.refl | exact Mx.mix))), rfl, rfl⟩
                                                     )
                                                  )
                                               ·skip
                                                first
                                                 | (exfalso; first | omega | contradiction | (clear hK33 K33; clear hK32 K32; clear hK31 K31; clear hK30 K30; clear hK22 K22; clear hK21 K21; clear hK20 K20; clear hK19 K19; clear hK18 K18; clear hK17 K17; clear hK16 K16; clear hK15 K15; clear hK14 K14; clear hK13 K13; clear hK10 K10; clear hK9 K9; clear hK8 K8; clear hK7 K7; clear hK5 K5; clear hK4 K4; clear hK2 K2; clear hK1 K1; clear hK0 K0; simp at *; done))
                                                 | (
                                                  refine QL.skip rfl rfl ?_
                                                  refine QL.skip rfl rfl ?_
                                                  refine QL.skip rfl rfl ?_
                                                  refine QL.skip rfl rfl ?_
                                                  refine QL.skip rfl rfl ?_
                                                  refine QL.skip rfl rfl ?_
                                                  refine QL.skip rfl rfl ?_
                                                  refine QL.skip rfl rfl ?_
                                                  refine QL.skip rfl rfl ?_
                                                  refine QL.p T ?_
                                                  refine QL.p T ?_
                                                  refine QL.nil ?_
                                                  refine hK33 _ _ _ ?_
                                                  refine SW.cond_f rfl ?_
                                                  refine SW.skip ?_
                                                  refine hK17 _ _ _ ?_
                                                  refine SW.region _ _ _ _ ?_
                                                  first | refine RL.ar ?_ | refine RL.p T ?_
                                                  refine RL.p T ?_
                                                  refine RL.wk (.var bq 73 [.int .i64 64, .int .i64 (n : Nat), .slice a (n - (k + 1)) c] :: .row a (n - (k + 1)) c 80 13 (List.flatMap EnC ((popL M).take (n - k - 1))) :: .row oa n oc 37 12 (List.flatMap ItC out) :: (G2 ++ (G ++ H))) ?_
                                                  refine RL.nil _ _ _ _ ?_
                                                  exact ⟨n - (k + 1), (by omega), k + 1, (popL M).take (n - k - 1), (by rfl), ⟨by omega, ⟨by rw [List.length_take, popL_len]; omega, hpn2, hqi2⟩⟩, (.cons rfl (.nil (by repeat first | with_reducible exact Mx.refl | with_reducible exact Mx.mix | refine Mx.put rfl ?_ | refine Mx.upd rfl ?_ | refine Mx.updl rfl ?_ | refine Mx.fin rfl ?_ | refine Mx.inner rfl ?_ | refine Mx.none ?_ | exact Mx.refl | exact Mx.mix))), rfl, rfl⟩
                                                  )
                                               )
                                            )
                                         )
                                      )
                                   )
                                )
                             )
                          )
                       )
                    )
                 )
              ·skip
               first
                | (exfalso; first | omega | contradiction | (clear hK16 K16; clear hK15 K15; clear hK14 K14; clear hK13 K13; clear hK10 K10; clear hK9 K9; clear hK8 K8; clear hK7 K7; clear hK5 K5; clear hK4 K4; clear hK2 K2; clear hK1 K1; clear hK0 K0; simp at *; done))
                | (
                 refine SW.exit ?_
                 refine hK13 _ _ _ ?_
                 refine SW.seq_k fun K37 hK37 => ?_
                 have h0 : n - k = 0 := by omega
                 rw [h0]
                 refine SW.region _ _ _ _ ?_
                 refine RL.p T ?_
                 refine RL.c fun14 (fun hs => SC.wk (take_none bq 64 (n : Nat) a c (H := H))) ?_
                 rintro _ _ ⟨rfl, e⟩; obtain rfl := e.symm
                 refine RL.p T ?_
                 refine RL.p T ?_
                 refine RL.p T ?_
                 refine RL.s ?_
                 refine NV.alloc T rfl rfl rfl (by exact (rfl : _ = [_, _, _, _, _, _, _, _, _, _, _, _])) ?_
                 intro b13_2
                 refine RL.s ?_
                 refine NV.sN T rfl rfl rfl (by exact (rfl : _ = [_, _, _, _, _, _, _, _, _, _, _, _])) (by exact (rfl : _ = [_, _, _, _, _, _, _, _, _, _, _, _])) ?_
                 refine RL.p T ?_
                 refine RL.nil _ _ _ _ ?_
                 refine hK37 _ _ _ ?_
                 refine SW.seq_k fun K38 hK38 => ?_
                 refine SW.region _ _ _ _ ?_
                 refine RL.p T ?_
                 refine RL.c fun21 (fun hs => SC.wk (head_none bq 64 (n : Nat) a c (H := H))) ?_
                 rintro _ _ ⟨rfl, e⟩; obtain rfl := e.symm
                 refine RL.p T ?_
                 refine RL.p T ?_
                 refine RL.p T ?_
                 refine RL.s ?_
                 refine NV.alloc T rfl rfl rfl (by exact (rfl : _ = [_, _, _, _, _, _, _, _, _, _, _, _])) ?_
                 intro b15_3
                 refine RL.s ?_
                 refine NV.sN T rfl rfl rfl (by exact (rfl : _ = [_, _, _, _, _, _, _, _, _, _, _, _])) (by exact (rfl : _ = [_, _, _, _, _, _, _, _, _, _, _, _])) ?_
                 refine RL.p T ?_
                 refine RL.nil _ _ _ _ ?_
                 refine hK38 _ _ _ ?_
                 refine SW.seq_k fun K39 hK39 => ?_
                 refine SW.region _ _ _ _ ?_
                 refine RL.p T ?_
                 refine RL.p T ?_
                 refine RL.p T ?_
                 refine RL.sp 146 (fun hs10 => ?_) (fun hs10 => ?_)
                 ·skip
                  first
                   | (exfalso; first | omega | contradiction | (clear hK39 K39; clear hK38 K38; clear hK37 K37; clear hK16 K16; clear hK15 K15; clear hK14 K14; clear hK13 K13; clear hK10 K10; clear hK9 K9; clear hK8 K8; clear hK7 K7; clear hK5 K5; clear hK4 K4; clear hK2 K2; clear hK1 K1; clear hK0 K0; simp at *; done))
                   | (
                    refine RL.p T ?_
                    refine RL.p T ?_
                    refine RL.p T ?_
                    refine RL.p T ?_
                    refine RL.sp 150 (fun hs11 => ?_) (fun hs11 => ?_)
                    ·skip
                     first
                      | (exfalso; first | omega | contradiction | (clear hK39 K39; clear hK38 K38; clear hK37 K37; clear hK16 K16; clear hK15 K15; clear hK14 K14; clear hK13 K13; clear hK10 K10; clear hK9 K9; clear hK8 K8; clear hK7 K7; clear hK5 K5; clear hK4 K4; clear hK2 K2; clear hK1 K1; clear hK0 K0; simp at *; done))
                      | (
                       refine RL.p T ?_
                       refine RL.c fun13 (fun hs => SC.wk (qlen bq 64 (n : Nat) a 0 c (H := H))) ?_
                       rintro _ _ ⟨rfl, e⟩; obtain rfl := e.symm
                       refine RL.p T ?_
                       refine RL.p T ?_
                       refine RL.p T ?_
                       refine RL.nil _ _ _ _ ?_
                       refine hK39 _ _ _ ?_
                       refine SW.ret ?_
                       refine retQ.rr (H) ?_
                       clear hK39 K39 hK38 K38 hK37 K37 hK16 K16 hK15 K15 hK14 K14 hK13 K13 hK10 K10 hK9 K9 hK8 K8 hK7 K7 hK5 K5 hK4 K4 hK2 K2 hK1 K1 hK0 K0
                       first
                         | exact ⟨rfl, rfl⟩
                         | exact ⟨boolE (decide_eq_true (by omega)), rfl⟩
                       )
                    ·skip
                     first
                      | (exfalso; first | omega | contradiction | (clear hK39 K39; clear hK38 K38; clear hK37 K37; clear hK16 K16; clear hK15 K15; clear hK14 K14; clear hK13 K13; clear hK10 K10; clear hK9 K9; clear hK8 K8; clear hK7 K7; clear hK5 K5; clear hK4 K4; clear hK2 K2; clear hK1 K1; clear hK0 K0; simp at *; done))
                      | (
                       refine RL.guard_no rfl rfl rfl ?_
                       refine RL.guard_no rfl rfl rfl ?_
                       refine RL.guard_no rfl rfl rfl ?_
                       refine RL.p T ?_
                       refine RL.p T ?_
                       refine RL.nil _ _ _ _ ?_
                       refine hK39 _ _ _ ?_
                       refine SW.ret ?_
                       refine retQ.rr (H) ?_
                       clear hK39 K39 hK38 K38 hK37 K37 hK16 K16 hK15 K15 hK14 K14 hK13 K13 hK10 K10 hK9 K9 hK8 K8 hK7 K7 hK5 K5 hK4 K4 hK2 K2 hK1 K1 hK0 K0
                       first
                         | exact ⟨rfl, rfl⟩
                         | exact ⟨boolE (decide_eq_true (by omega)), rfl⟩
                       )
                    )
                 ·skip
                  first
                   | (exfalso; first | omega | contradiction | (clear hK39 K39; clear hK38 K38; clear hK37 K37; clear hK16 K16; clear hK15 K15; clear hK14 K14; clear hK13 K13; clear hK10 K10; clear hK9 K9; clear hK8 K8; clear hK7 K7; clear hK5 K5; clear hK4 K4; clear hK2 K2; clear hK1 K1; clear hK0 K0; simp at *; done))
                   | (
                    refine RL.guard_no rfl rfl rfl ?_
                    refine RL.guard_no rfl rfl rfl ?_
                    refine RL.p T ?_
                    refine RL.p T ?_
                    refine RL.guard_no rfl rfl rfl ?_
                    refine RL.guard_no rfl rfl rfl ?_
                    refine RL.guard_no rfl rfl rfl ?_
                    refine RL.p T ?_
                    refine RL.p T ?_
                    refine RL.nil _ _ _ _ ?_
                    refine hK39 _ _ _ ?_
                    refine SW.ret ?_
                    refine retQ.rr (H) ?_
                    clear hK39 K39 hK38 K38 hK37 K37 hK16 K16 hK15 K15 hK14 K14 hK13 K13 hK10 K10 hK9 K9 hK8 K8 hK7 K7 hK5 K5 hK4 K4 hK2 K2 hK1 K1 hK0 K0
                    first
                      | exact ⟨rfl, rfl⟩
                      | exact ⟨boolE (decide_eq_true (by omega)), rfl⟩
                    )
                 )
             )
          )
       )
    )
end Go.Proofs.Ytjemdjjmpgjieaa.M
