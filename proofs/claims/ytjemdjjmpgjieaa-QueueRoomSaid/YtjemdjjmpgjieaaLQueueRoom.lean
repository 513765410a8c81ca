import Derived.Test.YtjemdjjmpgjieaaProg
import Derived.Test.YtjemdjjmpgjieaaFI14
import Derived.Test.YtjemdjjmpgjieaaS36
import Derived.Test.YtjemdjjmpgjieaaP14
set_option linter.unusedVariables false
set_option linter.unusedSimpArgs false
namespace Go.Proofs.Ytjemdjjmpgjieaa.M
open Go Go.Sep Go.Proofs
set_option maxRecDepth 10000
set_option maxHeartbeats 2000000
theorem ok_put {w0 : World} {x : Fs} {er last key : Int} {L L' : List En} {D G : List Chunk} {n : Nat} (hn : n = L.length) (h : (er ≠ 0 ∧ L' = L ∧ D = []) ∨ (er = 0 ∧ ∃ y : Fs, y.f = x.f ∧ FsOk w0 D y ∧ L' = upL (L ++ [⟨last + 1, y, key⟩]) n)) (hok : ∀ q ∈ L, FsOk w0 G q.fs) : ∀ q ∈ L', FsOk w0 (D ++ G) q.fs := by
  rcases h with ⟨_, rfl, rfl⟩ | ⟨_, y, _, hy, rfl⟩
  · exact hok
  · intro q hq
    have := upL_mem _ _ (by simp [hn]) hq
    rcases List.mem_append.1 this with h1 | h1
    · exact (hok q h1).app
    · rw [List.mem_singleton.1 h1]; exact hy.appr
theorem gE_mem {L : List En} {i : Nat} (h : i < L.length) : gE L i ∈ L := List.mem_of_getElem? (gE_get h)
theorem queueRoom_bad {w0 : World} {H : List Chunk} (room : Int) (hr : room < 0 ∨ 64 < room) (ls : List Fs) (sr : Option Addr) (nr cr : Nat) (hB : ∀ H, Rd w0 H sr nr cr 11 (ls.flatMap FsC)) (hnr : nr = ls.length) (hmr : nr ≤ 4398046511000) (hls : ∀ H, ∀ y ∈ ls, FsOk w0 H y) : SC Try.prog w0 3 #[.int .i64 room, .slice sr nr cr] H (fun v H' => v = .bool true ∧ H' = H) := by
 refine SC.enter Try.func3 rfl (Nat.le_of_ble_eq_true rfl) ?_
 refine SW.seq_k fun K0 hK0 => ?_
 refine SW.region _ _ _ _ ?_
 refine RL.p T ?_
 refine RL.nil _ _ _ _ ?_
 refine hK0 _ _ _ ?_
 refine SW.seq_k fun K1 hK1 => ?_
 refine SW.seq_k fun K2 hK2 => ?_
 refine SW.region _ _ _ _ ?_
 refine RL.c fun9 (fun hs => alive) ?_
 rintro _ _ ⟨rfl, e⟩; obtain rfl := e.symm
 refine RL.p T ?_
 refine RL.nil _ _ _ _ ?_
 refine hK2 _ _ _ ?_
 refine SW.cs (fun hc0 => ?_) (fun hc0 => ?_)
 ·skip
  first
   | (exfalso; first | omega | contradiction | (clear hK2 K2; clear hK1 K1; clear hK0 K0; simp at *; done))
   | (
    refine SW.seq_k fun K3 hK3 => ?_
    refine SW.region _ _ _ _ ?_
    refine RL.p T ?_
    refine RL.nil _ _ _ _ ?_
    refine hK3 _ _ _ ?_
    refine SW.ret ?_
    refine retQ.rr (H) ?_
    clear hK3 K3 hK2 K2 hK1 K1 hK0 K0
    exact ⟨rfl, rfl⟩
    )
 ·skip
  first
   | (exfalso; first | omega | contradiction | (clear hK2 K2; clear hK1 K1; clear hK0 K0; simp at *; done))
   | (
    refine SW.skip ?_
    refine hK1 _ _ _ ?_
    refine SW.seq_k fun K4 hK4 => ?_
    refine SW.region _ _ _ _ ?_
    refine RL.p T ?_
    refine RL.c fun10 (fun hs => qnew_bad room hr) ?_
    rintro _ _ ⟨rfl, e⟩; obtain rfl := e.symm
    refine RL.p T ?_
    refine RL.p T ?_
    refine RL.p T ?_
    refine RL.p T ?_
    refine RL.p T ?_
    refine RL.nil _ _ _ _ ?_
    refine hK4 _ _ _ ?_
    refine SW.seq_k fun K5 hK5 => ?_
    refine SW.seq_k fun K6 hK6 => ?_
    refine SW.region _ _ _ _ ?_
    refine RL.p T ?_
    refine RL.p T ?_
    refine RL.p T ?_
    refine RL.sp 23 (fun hs0 => ?_) (fun hs0 => ?_)
    ·skip
     first
      | (exfalso; first | omega | contradiction | (clear hK6 K6; clear hK5 K5; clear hK4 K4; clear hK2 K2; clear hK1 K1; clear hK0 K0; simp at *; done))
      | (
       refine RL.guard_no rfl rfl rfl ?_
       refine RL.guard_no rfl rfl rfl ?_
       refine RL.guard_no rfl rfl rfl ?_
       refine RL.p T ?_
       refine RL.nil _ _ _ _ ?_
       refine hK6 _ _ _ ?_
       refine SW.cond_t rfl ?_
       refine SW.seq_k fun K7 hK7 => ?_
       refine SW.region _ _ _ _ ?_
       refine RL.p T ?_
       refine RL.p T ?_
       refine RL.p T ?_
       refine RL.sp 30 (fun hs1 => ?_) (fun hs1 => ?_)
       ·skip
        first
         | (exfalso; first | omega | contradiction | (clear hK7 K7; clear hK6 K6; clear hK5 K5; clear hK4 K4; clear hK2 K2; clear hK1 K1; clear hK0 K0; simp at *; done))
         | (
          refine RL.guard_no rfl rfl rfl ?_
          refine RL.guard_no rfl rfl rfl ?_
          refine RL.p T ?_
          refine RL.p T ?_
          refine RL.nil _ _ _ _ ?_
          refine hK7 _ _ _ ?_
          refine SW.ret ?_
          refine retQ.rr (H) ?_
          clear hK7 K7 hK6 K6 hK5 K5 hK4 K4 hK2 K2 hK1 K1 hK0 K0
          exact ⟨rfl, rfl⟩
          )
       ·skip
        first
         | (exfalso; first | omega | contradiction | (clear hK7 K7; clear hK6 K6; clear hK5 K5; clear hK4 K4; clear hK2 K2; clear hK1 K1; clear hK0 K0; simp at *; done))
         | (
          refine RL.p T ?_
          refine RL.p T ?_
          refine RL.p T ?_
          refine RL.p T ?_
          refine RL.nil _ _ _ _ ?_
          refine hK7 _ _ _ ?_
          refine SW.ret ?_
          refine retQ.rr (H) ?_
          clear hK7 K7 hK6 K6 hK5 K5 hK4 K4 hK2 K2 hK1 K1 hK0 K0
          exact ⟨rfl, rfl⟩
          )
       )
    ·skip
     first
      | (exfalso; first | omega | contradiction | (clear hK6 K6; clear hK5 K5; clear hK4 K4; clear hK2 K2; clear hK1 K1; clear hK0 K0; simp at *; done))
      | (
       refine RL.p T ?_
       refine RL.p T ?_
       refine RL.p T ?_
       refine RL.p T ?_
       refine RL.nil _ _ _ _ ?_
       refine hK6 _ _ _ ?_
       refine SW.cs (fun hc1 => ?_) (fun hc1 => ?_)
       ·skip
        first
         | (exfalso; first | omega | contradiction | (clear hK6 K6; clear hK5 K5; clear hK4 K4; clear hK2 K2; clear hK1 K1; clear hK0 K0; simp at *; done))
         | (
          refine SW.seq_k fun K8 hK8 => ?_
          refine SW.region _ _ _ _ ?_
          refine RL.p T ?_
          refine RL.p T ?_
          refine RL.p T ?_
          refine RL.sp 30 (fun hs2 => ?_) (fun hs2 => ?_)
          ·skip
           first
            | (exfalso; first | omega | contradiction | (clear hK8 K8; clear hK6 K6; clear hK5 K5; clear hK4 K4; clear hK2 K2; clear hK1 K1; clear hK0 K0; simp at *; done))
            | (
             refine RL.guard_no rfl rfl rfl ?_
             refine RL.guard_no rfl rfl rfl ?_
             refine RL.p T ?_
             refine RL.p T ?_
             refine RL.nil _ _ _ _ ?_
             refine hK8 _ _ _ ?_
             refine SW.ret ?_
             refine retQ.rr (H) ?_
             clear hK8 K8 hK6 K6 hK5 K5 hK4 K4 hK2 K2 hK1 K1 hK0 K0
             exact ⟨rfl, rfl⟩
             )
          ·skip
           first
            | (exfalso; first | omega | contradiction | (clear hK8 K8; clear hK6 K6; clear hK5 K5; clear hK4 K4; clear hK2 K2; clear hK1 K1; clear hK0 K0; simp at *; done))
            | (
             refine RL.p T ?_
             refine RL.p T ?_
             refine RL.p T ?_
             refine RL.p T ?_
             refine RL.nil _ _ _ _ ?_
             refine hK8 _ _ _ ?_
             refine SW.ret ?_
             refine retQ.rr (H) ?_
             clear hK8 K8 hK6 K6 hK5 K5 hK4 K4 hK2 K2 hK1 K1 hK0 K0
             exact ⟨rfl, rfl⟩
             )
          )
       ·skip
        exfalso; first | omega | contradiction | (clear hK6 K6; clear hK5 K5; clear hK4 K4; clear hK2 K2; clear hK1 K1; clear hK0 K0; simp at *; done)
       )
    )
theorem queueRoom_ok {w0 : World} {H : List Chunk} (r : Nat) (hr : r ≤ 64) (ls : List Fs) (sr : Option Addr) (nr cr : Nat) (hB : ∀ H, Rd w0 H sr nr cr 11 (ls.flatMap FsC)) (hnr : nr = ls.length) (hmr : nr ≤ 4398046511000) (hls : ∀ H, ∀ y ∈ ls, FsOk w0 H y) : SC Try.prog w0 3 #[.int .i64 (r : Nat), .slice sr nr cr] H (fun v H' => v = .bool true ∧ H' = H) := by
 refine SC.enter Try.func3 rfl (Nat.le_of_ble_eq_true rfl) ?_
 refine SW.seq_k fun K0 hK0 => ?_
 refine SW.region _ _ _ _ ?_
 refine RL.p T ?_
 refine RL.nil _ _ _ _ ?_
 refine hK0 _ _ _ ?_
 refine SW.seq_k fun K1 hK1 => ?_
 refine SW.seq_k fun K2 hK2 => ?_
 refine SW.region _ _ _ _ ?_
 refine RL.c fun9 (fun hs => alive) ?_
 rintro _ _ ⟨rfl, e⟩; obtain rfl := e.symm
 refine RL.p T ?_
 refine RL.nil _ _ _ _ ?_
 refine hK2 _ _ _ ?_
 refine SW.cs (fun hc0 => ?_) (fun hc0 => ?_)
 ·skip
  first
   | (exfalso; first | omega | contradiction | (clear hK2 K2; clear hK1 K1; clear hK0 K0; simp at *; done))
   | (
    refine SW.seq_k fun K3 hK3 => ?_
    refine SW.region _ _ _ _ ?_
    refine RL.p T ?_
    refine RL.nil _ _ _ _ ?_
    refine hK3 _ _ _ ?_
    refine SW.ret ?_
    refine retQ.rr (H) ?_
    clear hK3 K3 hK2 K2 hK1 K1 hK0 K0
    first
      | exact ⟨rfl, rfl⟩
      | exact ⟨boolE (decide_eq_true (by omega)), rfl⟩
    )
 ·skip
  first
   | (exfalso; first | omega | contradiction | (clear hK2 K2; clear hK1 K1; clear hK0 K0; simp at *; done))
   | (
    refine SW.skip ?_
    refine hK1 _ _ _ ?_
    refine SW.seq_k fun K4 hK4 => ?_
    refine SW.region _ _ _ _ ?_
    refine RL.p T ?_
    refine RL.c fun10 (fun hs => qnew r hr) ?_
    rintro _ _ ⟨bq, rfl, e⟩; obtain rfl := e.symm
    refine RL.p T ?_
    refine RL.p T ?_
    refine RL.p T ?_
    refine RL.p T ?_
    refine RL.p T ?_
    refine RL.nil _ _ _ _ ?_
    refine hK4 _ _ _ ?_
    refine SW.seq_k fun K5 hK5 => ?_
    refine SW.seq_k fun K6 hK6 => ?_
    refine SW.region _ _ _ _ ?_
    refine RL.p T ?_
    refine RL.p T ?_
    refine RL.p T ?_
    refine RL.sp 23 (fun hs0 => ?_) (fun hs0 => ?_)
    ·skip
     first
      | (exfalso; first | omega | contradiction | (clear hK6 K6; clear hK5 K5; clear hK4 K4; clear hK2 K2; clear hK1 K1; clear hK0 K0; simp at *; done))
      | (
       refine RL.guard_no rfl rfl rfl ?_
       refine RL.guard_no rfl rfl rfl ?_
       refine RL.guard_no rfl rfl rfl ?_
       refine RL.p T ?_
       refine RL.nil _ _ _ _ ?_
       refine hK6 _ _ _ ?_
       refine SW.cond_t rfl ?_
       refine SW.seq_k fun K7 hK7 => ?_
       refine SW.region _ _ _ _ ?_
       refine RL.p T ?_
       refine RL.p T ?_
       refine RL.p T ?_
       refine RL.sp 30 (fun hs1 => ?_) (fun hs1 => ?_)
       ·skip
        first
         | (exfalso; first | omega | contradiction | (clear hK7 K7; clear hK6 K6; clear hK5 K5; clear hK4 K4; clear hK2 K2; clear hK1 K1; clear hK0 K0; simp at *; done))
         | (
          refine RL.guard_no rfl rfl rfl ?_
          refine RL.guard_no rfl rfl rfl ?_
          refine RL.p T ?_
          refine RL.p T ?_
          refine RL.nil _ _ _ _ ?_
          refine hK7 _ _ _ ?_
          refine SW.ret ?_
          refine retQ.rr (H) ?_
          clear hK7 K7 hK6 K6 hK5 K5 hK4 K4 hK2 K2 hK1 K1 hK0 K0
          first
            | exact ⟨rfl, rfl⟩
            | exact ⟨boolE (decide_eq_true (by omega)), rfl⟩
          )
       ·skip
        first
         | (exfalso; first | omega | contradiction | (clear hK7 K7; clear hK6 K6; clear hK5 K5; clear hK4 K4; clear hK2 K2; clear hK1 K1; clear hK0 K0; simp at *; done))
         | (
          refine RL.p T ?_
          refine RL.p T ?_
          refine RL.p T ?_
          refine RL.p T ?_
          refine RL.nil _ _ _ _ ?_
          refine hK7 _ _ _ ?_
          refine SW.ret ?_
          refine retQ.rr (H) ?_
          clear hK7 K7 hK6 K6 hK5 K5 hK4 K4 hK2 K2 hK1 K1 hK0 K0
          first
            | exact ⟨rfl, rfl⟩
            | exact ⟨boolE (decide_eq_true (by omega)), rfl⟩
          )
       )
    ·skip
     first
      | (exfalso; first | omega | contradiction | (clear hK6 K6; clear hK5 K5; clear hK4 K4; clear hK2 K2; clear hK1 K1; clear hK0 K0; simp at *; done))
      | (
       refine RL.p T ?_
       refine RL.p T ?_
       refine RL.p T ?_
       refine RL.p T ?_
       refine RL.nil _ _ _ _ ?_
       refine hK6 _ _ _ ?_
       refine SW.cs (fun hc1 => ?_) (fun hc1 => ?_)
       ·skip
        first
         | (exfalso; first | omega | contradiction | (clear hK6 K6; clear hK5 K5; clear hK4 K4; clear hK2 K2; clear hK1 K1; clear hK0 K0; simp at *; done))
         | (
          refine SW.seq_k fun K8 hK8 => ?_
          refine SW.region _ _ _ _ ?_
          refine RL.p T ?_
          refine RL.p T ?_
          refine RL.p T ?_
          refine RL.sp 30 (fun hs2 => ?_) (fun hs2 => ?_)
          ·skip
           first
            | (exfalso; first | omega | contradiction | (clear hK8 K8; clear hK6 K6; clear hK5 K5; clear hK4 K4; clear hK2 K2; clear hK1 K1; clear hK0 K0; simp at *; done))
            | (
             refine RL.guard_no rfl rfl rfl ?_
             refine RL.guard_no rfl rfl rfl ?_
             refine RL.p T ?_
             refine RL.p T ?_
             refine RL.nil _ _ _ _ ?_
             refine hK8 _ _ _ ?_
             refine SW.ret ?_
             refine retQ.rr (H) ?_
             clear hK8 K8 hK6 K6 hK5 K5 hK4 K4 hK2 K2 hK1 K1 hK0 K0
             first
               | exact ⟨rfl, rfl⟩
               | exact ⟨boolE (decide_eq_true (by omega)), rfl⟩
             )
          ·skip
           first
            | (exfalso; first | omega | contradiction | (clear hK8 K8; clear hK6 K6; clear hK5 K5; clear hK4 K4; clear hK2 K2; clear hK1 K1; clear hK0 K0; simp at *; done))
            | (
             refine RL.p T ?_
             refine RL.p T ?_
             refine RL.p T ?_
             refine RL.p T ?_
             refine RL.nil _ _ _ _ ?_
             refine hK8 _ _ _ ?_
             refine SW.ret ?_
             refine retQ.rr (H) ?_
             clear hK8 K8 hK6 K6 hK5 K5 hK4 K4 hK2 K2 hK1 K1 hK0 K0
             first
               | exact ⟨rfl, rfl⟩
               | exact ⟨boolE (decide_eq_true (by omega)), rfl⟩
             )
          )
       ·skip
        first
         | (exfalso; first | omega | contradiction | (clear hK6 K6; clear hK5 K5; clear hK4 K4; clear hK2 K2; clear hK1 K1; clear hK0 K0; simp at *; done))
         | (
          refine SW.skip ?_
          refine hK5 _ _ _ ?_
          refine SW.seq_k fun K9 hK9 => ?_
          refine SW.nilrow 80 13 ?_
          refine SW.wk (.var bq 73 [.int .i64 (r : Nat), .int .i64 (0 : Nat), .slice none 0 0] :: .row none 0 0 80 13 (List.flatMap EnC ([])) :: ([] ++ H)) ?_
          refine SW.region _ _ _ _ ?_
          refine RL.p T ?_
          refine RL.nil _ _ _ _ ?_
          refine hK9 _ _ _ ?_
          refine SW.seq_k fun K10 hK10 => ?_
          refine SW.seq_k fun K11 hK11 => ?_
          refine SW.region _ _ _ _ ?_
          refine RL.p T ?_
          refine RL.p T ?_
          refine RL.p T ?_
          refine RL.nil _ _ _ _ ?_
          refine hK11 _ _ _ ?_
          refine SW.block ?_
          refine SW.loopM (fun frB mm fr ds HH => ∃ (k : Nat) (m : Nat) (a : Option Addr) (c : Nat) (L : List En) (G : List Chunk), mm = nr - k ∧ (k ≤ nr ∧ (L.length = m ∧ m ≤ r ∧ (∀ q ∈ L, FsOk w0 G q.fs))) ∧ FrIs [4, 7, 9, 10, 11, 36, 37, 38, 39, 40, 41, 42, 43, 44, 45, 46, 47, 48, 49, 50, 51, 52, 53, 54, 55, 56, 57, 58, 59, 60, 61, 62, 63, 64, 65, 66, 67, 68, 69, 70, 71, 72, 73, 74, 75, 76, 77, 78, 79] frB fr [(36, .int .i64 k), (7, .int .i64 m)] ∧ ds = [] ∧ HH = (.var bq 73 [.int .i64 (r : Nat), .int .i64 (m : Nat), .slice a m c] :: .row a m c 80 13 (List.flatMap EnC (L)) :: (G ++ H))) (n := nr - 0) ?_ ?_
          ·exact ⟨0, 0, none, 0, [], [], rfl, ⟨Nat.zero_le _, ⟨rfl, Nat.zero_le _, fun q h => by cases h⟩⟩, (.cons rfl (.consI rfl (by first | omega | rfl) (.nil (by repeat first | with_reducible exact Mx.refl | with_reducible exact Mx.mix | refine Mx.put rfl ?_ | refine Mx.upd rfl ?_ | refine Mx.updl rfl ?_ | refine Mx.fin rfl ?_ | refine Mx.inner rfl ?_ | refine Mx.none ?_ | exact Mx.refl | exact Mx.mix)))), rfl, rfl⟩
          ·rintro mm fr ds HH ⟨k, m, a, c, L, G, rfl, ⟨hk, ⟨hLm, hmr2, hok⟩⟩, hFr, rfl, eHH⟩
           obtain rfl := eHH.symm
           obtain ⟨frU, rfl⟩ := hFr.eq
           clear hFr
           have hx := fun HH => getF_mem (hls HH) k
           refine SW.seq_k fun K12 hK12 => ?_
           refine SW.region _ _ _ _ ?_
           refine RL.p T ?_
           refine RL.nil _ _ _ _ ?_
           refine hK12 _ _ _ ?_
           refine SW.seq_k fun K13 hK13 => ?_
           refine SW.cs (fun hc2 => ?_) (fun hc2 => ?_)
           ·skip
            first
             | (exfalso; first | omega | contradiction | (clear hK13 K13; clear hK12 K12; clear hK11 K11; clear hK10 K10; clear hK9 K9; clear hK6 K6; clear hK5 K5; clear hK4 K4; clear hK2 K2; clear hK1 K1; clear hK0 K0; simp at *; done))
             | (
              refine SW.skip ?_
              refine hK13 _ _ _ ?_
              refine SW.seq_k fun K14 hK14 => ?_
              refine SW.block ?_
              refine SW.seq_k fun K15 hK15 => ?_
              refine SW.region _ _ _ _ ?_
              refine RL.ix T ?_ (hR := fun hs => (hB _))
              refine RL.leN T ?_ (hR := fun hs => (hB _)) (hvs := (by exact (rfl : _ = [_, _, _, _, _, _, _, _, _, _, _])))
              refine RL.s ?_
              refine NV.alloc T rfl rfl rfl (by exact (rfl : _ = [_, _, _, _, _, _, _, _, _, _, _])) ?_
              intro b9_0
              refine RL.s ?_
              refine NV.sN T rfl rfl rfl (by exact (rfl : _ = [_, _, _, _, _, _, _, _, _, _, _])) (by exact (rfl : _ = [_, _, _, _, _, _, _, _, _, _, _])) ?_
              refine RL.nil _ _ _ _ ?_
              refine hK15 _ _ _ ?_
              refine SW.seq_k fun K16 hK16 => ?_
              refine SW.region _ _ _ _ ?_
              refine RL.p T ?_
              refine RL.q (QV.vN T rfl rfl rfl rfl rfl (by exact (rfl : _ = [_, _, _, _, _, _, _, _, _, _, _]))) ?_
              refine RL.c fun11 (fun hs => SC.wk (putU bq (r : Nat) (m : Nat) a m c L hLm.symm (by omega) (ls.getD k default) (hx _) (by omega) (by omega) (H := .var b9_0 31 [.int .i64 (ls.getD k default).f.kind, .int .u32 (ls.getD k default).f.id, .bool (ls.getD k default).f.ext, .bool (ls.getD k default).f.rtr, .bool (ls.getD k default).f.brs, .bool (ls.getD k default).f.esi, .bool (ls.getD k default).f.sec, .int .u8 (ls.getD k default).f.sdt, .int .u8 (ls.getD k default).f.vcid, .int .u32 (ls.getD k default).f.af, .slice (ls.getD k default).a (ls.getD k default).n (ls.getD k default).c] :: (G ++ H)))) ?_
              rintro _ _ ⟨no, er, last', a', n', c', L', D, rfl, e, hn', hlin, hL'⟩; obtain rfl := e.symm
              refine RL.p T ?_
              refine RL.p T ?_
              refine RL.p T ?_
              refine RL.p T ?_
              refine RL.p T ?_
              refine RL.nil _ _ _ _ ?_
              refine hK16 _ _ _ ?_
              refine SW.seq_k fun K17 hK17 => ?_
              refine SW.block ?_
              refine SW.seq_k fun K18 hK18 => ?_
              refine SW.region _ _ _ _ ?_
              refine RL.q (QV.vN T rfl rfl rfl rfl rfl (by exact (rfl : _ = [_, _, _, _, _, _, _, _, _, _, _]))) ?_
              refine RL.c fun12 (fun hs => fcheck (ls.getD k default).f (ls.getD k default).a (ls.getD k default).n (ls.getD k default).c (hx _).rd (hx H).len (hx H).max (hx H).ok) ?_
              rintro _ _ ⟨rfl, e⟩; obtain rfl := e.symm
              refine RL.p T ?_
              refine RL.p T ?_
              refine RL.nil _ _ _ _ ?_
              refine hK18 _ _ _ ?_
              refine SW.cs (fun hc3 => ?_) (fun hc3 => ?_)
              ·skip
               first
                | (exfalso; first | omega | contradiction | (clear hK18 K18; clear hK17 K17; clear hK16 K16; clear hK15 K15; clear hK14 K14; clear hK13 K13; clear hK12 K12; clear hK11 K11; clear hK10 K10; clear hK9 K9; clear hK6 K6; clear hK5 K5; clear hK4 K4; clear hK2 K2; clear hK1 K1; clear hK0 K0; simp at *; done))
                | (
                 refine SW.seq_k fun K19 hK19 => ?_
                 refine SW.region _ _ _ _ ?_
                 refine RL.p T ?_
                 refine RL.p T ?_
                 refine RL.p T ?_
                 refine RL.sp 61 (fun hs3 => ?_) (fun hs3 => ?_)
                 ·skip
                  first
                   | (exfalso; first | omega | contradiction | (clear hK19 K19; clear hK18 K18; clear hK17 K17; clear hK16 K16; clear hK15 K15; clear hK14 K14; clear hK13 K13; clear hK12 K12; clear hK11 K11; clear hK10 K10; clear hK9 K9; clear hK6 K6; clear hK5 K5; clear hK4 K4; clear hK2 K2; clear hK1 K1; clear hK0 K0; simp at *; done))
                   | (
                    refine RL.guard_no rfl rfl rfl ?_
                    refine RL.guard_no rfl rfl rfl ?_
                    refine RL.p T ?_
                    refine RL.nil _ _ _ _ ?_
                    refine hK19 _ _ _ ?_
                    refine SW.cond_t rfl ?_
                    refine SW.seq_k fun K20 hK20 => ?_
                    refine SW.region _ _ _ _ ?_
                    refine RL.p T ?_
                    refine RL.nil _ _ _ _ ?_
                    refine hK20 _ _ _ ?_
                    refine SW.ret ?_
                    refine retQ.rr (H) ?_
                    clear hK20 K20 hK19 K19 hK18 K18 hK17 K17 hK16 K16 hK15 K15 hK14 K14 hK13 K13 hK12 K12 hK11 K11 hK10 K10 hK9 K9 hK6 K6 hK5 K5 hK4 K4 hK2 K2 hK1 K1 hK0 K0
                    first
                      | exact ⟨rfl, rfl⟩
                      | exact ⟨boolE (decide_eq_true (by omega)), rfl⟩
                    )
                 ·skip
                  first
                   | (exfalso; first | omega | contradiction | (clear hK19 K19; clear hK18 K18; clear hK17 K17; clear hK16 K16; clear hK15 K15; clear hK14 K14; clear hK13 K13; clear hK12 K12; clear hK11 K11; clear hK10 K10; clear hK9 K9; clear hK6 K6; clear hK5 K5; clear hK4 K4; clear hK2 K2; clear hK1 K1; clear hK0 K0; simp at *; done))
                   | (
                    refine RL.p T ?_
                    refine RL.p T ?_
                    refine RL.p T ?_
                    refine RL.nil _ _ _ _ ?_
                    refine hK19 _ _ _ ?_
                    refine SW.cs (fun hc4 => ?_) (fun hc4 => ?_)
                    ·skip
                     first
                      | (exfalso; first | omega | contradiction | (clear hK19 K19; clear hK18 K18; clear hK17 K17; clear hK16 K16; clear hK15 K15; clear hK14 K14; clear hK13 K13; clear hK12 K12; clear hK11 K11; clear hK10 K10; clear hK9 K9; clear hK6 K6; clear hK5 K5; clear hK4 K4; clear hK2 K2; clear hK1 K1; clear hK0 K0; simp at *; done))
                      | (
                       refine SW.seq_k fun K21 hK21 => ?_
                       refine SW.region _ _ _ _ ?_
                       refine RL.p T ?_
                       refine RL.nil _ _ _ _ ?_
                       refine hK21 _ _ _ ?_
                       refine SW.ret ?_
                       refine retQ.rr (H) ?_
                       clear hK21 K21 hK19 K19 hK18 K18 hK17 K17 hK16 K16 hK15 K15 hK14 K14 hK13 K13 hK12 K12 hK11 K11 hK10 K10 hK9 K9 hK6 K6 hK5 K5 hK4 K4 hK2 K2 hK1 K1 hK0 K0
                       first
                         | exact ⟨rfl, rfl⟩
                         | exact ⟨boolE (decide_eq_true (by omega)), rfl⟩
                       )
                    ·skip
                     first
                      | (exfalso; first | omega | contradiction | (clear hK19 K19; clear hK18 K18; clear hK17 K17; clear hK16 K16; clear hK15 K15; clear hK14 K14; clear hK13 K13; clear hK12 K12; clear hK11 K11; clear hK10 K10; clear hK9 K9; clear hK6 K6; clear hK5 K5; clear hK4 K4; clear hK2 K2; clear hK1 K1; clear hK0 K0; simp at *; done))
                      | (
                       refine SW.skip ?_
                       refine hK17 _ _ _ ?_
                       refine SW.seq_k fun K22 hK22 => ?_
                       refine SW.region _ _ _ _ ?_
                       refine RL.p T ?_
                       refine RL.c fun13 (fun hs => SC.wk (qlen bq (r : Nat) last' a' n' c' (H := .row a' n' c' 80 13 (List.flatMap EnC (L')) :: (D ++ (G ++ H))))) ?_
                       rintro _ _ ⟨rfl, e⟩; obtain rfl := e.symm
                       refine RL.p T ?_
                       refine RL.p T ?_
                       refine RL.nil _ _ _ _ ?_
                       refine hK22 _ _ _ ?_
                       refine SW.cs (fun hc5 => ?_) (fun hc5 => ?_)
                       ·skip
                        first
                         | (exfalso; first | omega | contradiction | (clear hK22 K22; clear hK19 K19; clear hK18 K18; clear hK17 K17; clear hK16 K16; clear hK15 K15; clear hK14 K14; clear hK13 K13; clear hK12 K12; clear hK11 K11; clear hK10 K10; clear hK9 K9; clear hK6 K6; clear hK5 K5; clear hK4 K4; clear hK2 K2; clear hK1 K1; clear hK0 K0; simp at *; done))
                         | (
                          refine SW.seq_k fun K23 hK23 => ?_
                          refine SW.region _ _ _ _ ?_
                          refine RL.p T ?_
                          refine RL.nil _ _ _ _ ?_
                          refine hK23 _ _ _ ?_
                          refine SW.ret ?_
                          refine retQ.rr (H) ?_
                          clear hK23 K23 hK22 K22 hK19 K19 hK18 K18 hK17 K17 hK16 K16 hK15 K15 hK14 K14 hK13 K13 hK12 K12 hK11 K11 hK10 K10 hK9 K9 hK6 K6 hK5 K5 hK4 K4 hK2 K2 hK1 K1 hK0 K0
                          first
                            | exact ⟨rfl, rfl⟩
                            | exact ⟨boolE (decide_eq_true (by omega)), rfl⟩
                          )
                       ·skip
                        first
                         | (exfalso; first | omega | contradiction | (clear hK22 K22; clear hK19 K19; clear hK18 K18; clear hK17 K17; clear hK16 K16; clear hK15 K15; clear hK14 K14; clear hK13 K13; clear hK12 K12; clear hK11 K11; clear hK10 K10; clear hK9 K9; clear hK6 K6; clear hK5 K5; clear hK4 K4; clear hK2 K2; clear hK1 K1; clear hK0 K0; simp at *; done))
                         | (
                          refine SW.skip ?_
                          refine hK14 _ _ _ ?_
                          refine SW.region _ _ _ _ ?_
                          first | refine RL.ar ?_ | refine RL.p T ?_
                          refine RL.p T ?_
                          obtain rfl : last' = ((n' : Nat) : Int) := by omega
                          refine RL.wk (.var bq 73 [.int .i64 (r : Nat), .int .i64 (n' : Nat), .slice a' n' c'] :: .row a' n' c' 80 13 (List.flatMap EnC (L')) :: ((D ++ G) ++ H)) ?_
                          refine RL.nil _ _ _ _ ?_
                          exact ⟨nr - (k + 1), (by omega), k + 1, n', a', c', L', D ++ G, (by rfl), ⟨by omega, ⟨hn'.symm, by omega, ok_put hLm.symm hL' hok⟩⟩, (.cons rfl (.consI rfl (by first | omega | rfl) (.nil (by repeat first | with_reducible exact Mx.refl | with_reducible exact Mx.mix | refine Mx.put rfl ?_ | refine Mx.upd rfl ?_ | refine Mx.updl rfl ?_ | refine Mx.fin rfl ?_ | refine Mx.inner rfl ?_ | refine Mx.none ?_ | exact Mx.refl | exact Mx.mix)))), rfl, rfl⟩
                          )
                       )
                    )
                 )
              ·skip
               first
                | (exfalso; first | omega | contradiction | (clear hK18 K18; clear hK17 K17; clear hK16 K16; clear hK15 K15; clear hK14 K14; clear hK13 K13; clear hK12 K12; clear hK11 K11; clear hK10 K10; clear hK9 K9; clear hK6 K6; clear hK5 K5; clear hK4 K4; clear hK2 K2; clear hK1 K1; clear hK0 K0; simp at *; done))
                | (
                 refine SW.seq_k fun K24 hK24 => ?_
                 refine SW.region _ _ _ _ ?_
                 refine RL.p T ?_
                 refine RL.p T ?_
                 refine RL.p T ?_
                 refine RL.p T ?_
                 refine RL.nil _ _ _ _ ?_
                 refine hK24 _ _ _ ?_
                 refine SW.cs (fun hc6 => ?_) (fun hc6 => ?_)
                 ·skip
                  first
                   | (exfalso; first | omega | contradiction | (clear hK24 K24; clear hK18 K18; clear hK17 K17; clear hK16 K16; clear hK15 K15; clear hK14 K14; clear hK13 K13; clear hK12 K12; clear hK11 K11; clear hK10 K10; clear hK9 K9; clear hK6 K6; clear hK5 K5; clear hK4 K4; clear hK2 K2; clear hK1 K1; clear hK0 K0; simp at *; done))
                   | (
                    refine SW.seq_k fun K25 hK25 => ?_
                    refine SW.region _ _ _ _ ?_
                    refine RL.p T ?_
                    refine RL.p T ?_
                    refine RL.p T ?_
                    refine RL.sp 71 (fun hs4 => ?_) (fun hs4 => ?_)
                    ·skip
                     first
                      | (exfalso; first | omega | contradiction | (clear hK25 K25; clear hK24 K24; clear hK18 K18; clear hK17 K17; clear hK16 K16; clear hK15 K15; clear hK14 K14; clear hK13 K13; clear hK12 K12; clear hK11 K11; clear hK10 K10; clear hK9 K9; clear hK6 K6; clear hK5 K5; clear hK4 K4; clear hK2 K2; clear hK1 K1; clear hK0 K0; simp at *; done))
                      | (
                       refine RL.guard_no rfl rfl rfl ?_
                       refine RL.guard_no rfl rfl rfl ?_
                       refine RL.p T ?_
                       refine RL.nil _ _ _ _ ?_
                       refine hK25 _ _ _ ?_
                       refine SW.cond_t rfl ?_
                       refine SW.seq_k fun K26 hK26 => ?_
                       refine SW.region _ _ _ _ ?_
                       refine RL.p T ?_
                       refine RL.nil _ _ _ _ ?_
                       refine hK26 _ _ _ ?_
                       refine SW.ret ?_
                       refine retQ.rr (H) ?_
                       clear hK26 K26 hK25 K25 hK24 K24 hK18 K18 hK17 K17 hK16 K16 hK15 K15 hK14 K14 hK13 K13 hK12 K12 hK11 K11 hK10 K10 hK9 K9 hK6 K6 hK5 K5 hK4 K4 hK2 K2 hK1 K1 hK0 K0
                       first
                         | exact ⟨rfl, rfl⟩
                         | exact ⟨boolE (decide_eq_true (by omega)), rfl⟩
                       )
                    ·skip
                     first
                      | (exfalso; first | omega | contradiction | (clear hK25 K25; clear hK24 K24; clear hK18 K18; clear hK17 K17; clear hK16 K16; clear hK15 K15; clear hK14 K14; clear hK13 K13; clear hK12 K12; clear hK11 K11; clear hK10 K10; clear hK9 K9; clear hK6 K6; clear hK5 K5; clear hK4 K4; clear hK2 K2; clear hK1 K1; clear hK0 K0; simp at *; done))
                      | (
                       refine RL.p T ?_
                       refine RL.p T ?_
                       refine RL.p T ?_
                       refine RL.nil _ _ _ _ ?_
                       refine hK25 _ _ _ ?_
                       refine SW.cs (fun hc7 => ?_) (fun hc7 => ?_)
                       ·skip
                        first
                         | (exfalso; first | omega | contradiction | (clear hK25 K25; clear hK24 K24; clear hK18 K18; clear hK17 K17; clear hK16 K16; clear hK15 K15; clear hK14 K14; clear hK13 K13; clear hK12 K12; clear hK11 K11; clear hK10 K10; clear hK9 K9; clear hK6 K6; clear hK5 K5; clear hK4 K4; clear hK2 K2; clear hK1 K1; clear hK0 K0; simp at *; done))
                         | (
                          refine SW.seq_k fun K27 hK27 => ?_
                          refine SW.region _ _ _ _ ?_
                          refine RL.p T ?_
                          refine RL.nil _ _ _ _ ?_
                          refine hK27 _ _ _ ?_
                          refine SW.ret ?_
                          refine retQ.rr (H) ?_
                          clear hK27 K27 hK25 K25 hK24 K24 hK18 K18 hK17 K17 hK16 K16 hK15 K15 hK14 K14 hK13 K13 hK12 K12 hK11 K11 hK10 K10 hK9 K9 hK6 K6 hK5 K5 hK4 K4 hK2 K2 hK1 K1 hK0 K0
                          first
                            | exact ⟨rfl, rfl⟩
                            | exact ⟨boolE (decide_eq_true (by omega)), rfl⟩
                          )
                       ·skip
                        first
                         | (exfalso; first | omega | contradiction | (clear hK25 K25; clear hK24 K24; clear hK18 K18; clear hK17 K17; clear hK16 K16; clear hK15 K15; clear hK14 K14; clear hK13 K13; clear hK12 K12; clear hK11 K11; clear hK10 K10; clear hK9 K9; clear hK6 K6; clear hK5 K5; clear hK4 K4; clear hK2 K2; clear hK1 K1; clear hK0 K0; simp at *; done))
                         | (
                          refine SW.skip ?_
                          refine hK17 _ _ _ ?_
                          refine SW.seq_k fun K28 hK28 => ?_
                          refine SW.region _ _ _ _ ?_
                          refine RL.p T ?_
                          refine RL.c fun13 (fun hs => SC.wk (qlen bq (r : Nat) last' a' n' c' (H := .row a' n' c' 80 13 (List.flatMap EnC (L')) :: (D ++ (G ++ H))))) ?_
                          rintro _ _ ⟨rfl, e⟩; obtain rfl := e.symm
                          refine RL.p T ?_
                          refine RL.p T ?_
                          refine RL.nil _ _ _ _ ?_
                          refine hK28 _ _ _ ?_
                          refine SW.cs (fun hc8 => ?_) (fun hc8 => ?_)
                          ·skip
                           first
                            | (exfalso; first | omega | contradiction | (clear hK28 K28; clear hK25 K25; clear hK24 K24; clear hK18 K18; clear hK17 K17; clear hK16 K16; clear hK15 K15; clear hK14 K14; clear hK13 K13; clear hK12 K12; clear hK11 K11; clear hK10 K10; clear hK9 K9; clear hK6 K6; clear hK5 K5; clear hK4 K4; clear hK2 K2; clear hK1 K1; clear hK0 K0; simp at *; done))
                            | (
                             refine SW.seq_k fun K29 hK29 => ?_
                             refine SW.region _ _ _ _ ?_
                             refine RL.p T ?_
                             refine RL.nil _ _ _ _ ?_
                             refine hK29 _ _ _ ?_
                             refine SW.ret ?_
                             refine retQ.rr (H) ?_
                             clear hK29 K29 hK28 K28 hK25 K25 hK24 K24 hK18 K18 hK17 K17 hK16 K16 hK15 K15 hK14 K14 hK13 K13 hK12 K12 hK11 K11 hK10 K10 hK9 K9 hK6 K6 hK5 K5 hK4 K4 hK2 K2 hK1 K1 hK0 K0
                             first
                               | exact ⟨rfl, rfl⟩
                               | exact ⟨boolE (decide_eq_true (by omega)), rfl⟩
                             )
                          ·skip
                           first
                            | (exfalso; first | omega | contradiction | (clear hK28 K28; clear hK25 K25; clear hK24 K24; clear hK18 K18; clear hK17 K17; clear hK16 K16; clear hK15 K15; clear hK14 K14; clear hK13 K13; clear hK12 K12; clear hK11 K11; clear hK10 K10; clear hK9 K9; clear hK6 K6; clear hK5 K5; clear hK4 K4; clear hK2 K2; clear hK1 K1; clear hK0 K0; simp at *; done))
                            | (
                             refine SW.skip ?_
                             refine hK14 _ _ _ ?_
                             refine SW.region _ _ _ _ ?_
                             first | refine RL.ar ?_ | refine RL.p T ?_
                             refine RL.p T ?_
                             obtain rfl : last' = ((n' : Nat) : Int) := by omega
                             refine RL.wk (.var bq 73 [.int .i64 (r : Nat), .int .i64 (n' : Nat), .slice a' n' c'] :: .row a' n' c' 80 13 (List.flatMap EnC (L')) :: ((D ++ G) ++ H)) ?_
                             refine RL.nil _ _ _ _ ?_
                             exact ⟨nr - (k + 1), (by omega), k + 1, n', a', c', L', D ++ G, (by rfl), ⟨by omega, ⟨hn'.symm, by omega, ok_put hLm.symm hL' hok⟩⟩, (.cons rfl (.consI rfl (by first | omega | rfl) (.nil (by repeat first | with_reducible exact Mx.refl | with_reducible exact Mx.mix | refine Mx.put rfl ?_ | refine Mx.upd rfl ?_ | refine Mx.updl rfl ?_ | refine Mx.fin rfl ?_ | refine Mx.inner rfl ?_ | refine Mx.none ?_ | exact Mx.refl | exact Mx.mix)))), rfl, rfl⟩
                             )
                          )
                       )
                    )
                 ·skip
                  first
                   | (exfalso; first | omega | contradiction | (clear hK24 K24; clear hK18 K18; clear hK17 K17; clear hK16 K16; clear hK15 K15; clear hK14 K14; clear hK13 K13; clear hK12 K12; clear hK11 K11; clear hK10 K10; clear hK9 K9; clear hK6 K6; clear hK5 K5; clear hK4 K4; clear hK2 K2; clear hK1 K1; clear hK0 K0; simp at *; done))
                   | (
                    refine SW.seq_k fun K30 hK30 => ?_
                    refine SW.region _ _ _ _ ?_
                    refine RL.p T ?_
                    first | refine RL.ar ?_ | refine RL.p T ?_
                    refine RL.p T ?_
                    refine RL.nil _ _ _ _ ?_
                    refine hK30 _ _ _ ?_
                    refine SW.seq_k fun K31 hK31 => ?_
                    refine SW.region _ _ _ _ ?_
                    refine RL.p T ?_
                    refine RL.p T ?_
                    refine RL.p T ?_
                    refine RL.sp 50 (fun hs5 => ?_) (fun hs5 => ?_)
                    ·skip
                     first
                      | (exfalso; first | omega | contradiction | (clear hK31 K31; clear hK30 K30; clear hK24 K24; clear hK18 K18; clear hK17 K17; clear hK16 K16; clear hK15 K15; clear hK14 K14; clear hK13 K13; clear hK12 K12; clear hK11 K11; clear hK10 K10; clear hK9 K9; clear hK6 K6; clear hK5 K5; clear hK4 K4; clear hK2 K2; clear hK1 K1; clear hK0 K0; simp at *; done))
                      | (
                       refine RL.guard_no rfl rfl rfl ?_
                       refine RL.guard_no rfl rfl rfl ?_
                       refine RL.guard_no rfl rfl rfl ?_
                       refine RL.p T ?_
                       refine RL.nil _ _ _ _ ?_
                       refine hK31 _ _ _ ?_
                       refine SW.cond_t rfl ?_
                       refine SW.seq_k fun K32 hK32 => ?_
                       refine SW.region _ _ _ _ ?_
                       refine RL.p T ?_
                       refine RL.nil _ _ _ _ ?_
                       refine hK32 _ _ _ ?_
                       refine SW.ret ?_
                       refine retQ.rr (H) ?_
                       clear hK32 K32 hK31 K31 hK30 K30 hK24 K24 hK18 K18 hK17 K17 hK16 K16 hK15 K15 hK14 K14 hK13 K13 hK12 K12 hK11 K11 hK10 K10 hK9 K9 hK6 K6 hK5 K5 hK4 K4 hK2 K2 hK1 K1 hK0 K0
                       first
                         | exact ⟨rfl, rfl⟩
                         | exact ⟨boolE (decide_eq_true (by omega)), rfl⟩
                       )
                    ·skip
                     first
                      | (exfalso; first | omega | contradiction | (clear hK31 K31; clear hK30 K30; clear hK24 K24; clear hK18 K18; clear hK17 K17; clear hK16 K16; clear hK15 K15; clear hK14 K14; clear hK13 K13; clear hK12 K12; clear hK11 K11; clear hK10 K10; clear hK9 K9; clear hK6 K6; clear hK5 K5; clear hK4 K4; clear hK2 K2; clear hK1 K1; clear hK0 K0; simp at *; done))
                      | (
                       refine RL.p T ?_
                       refine RL.p T ?_
                       refine RL.p T ?_
                       refine RL.p T ?_
                       refine RL.nil _ _ _ _ ?_
                       refine hK31 _ _ _ ?_
                       refine SW.cs (fun hc9 => ?_) (fun hc9 => ?_)
                       ·skip
                        first
                         | (exfalso; first | omega | contradiction | (clear hK31 K31; clear hK30 K30; clear hK24 K24; clear hK18 K18; clear hK17 K17; clear hK16 K16; clear hK15 K15; clear hK14 K14; clear hK13 K13; clear hK12 K12; clear hK11 K11; clear hK10 K10; clear hK9 K9; clear hK6 K6; clear hK5 K5; clear hK4 K4; clear hK2 K2; clear hK1 K1; clear hK0 K0; simp at *; done))
                         | (
                          refine SW.seq_k fun K33 hK33 => ?_
                          refine SW.region _ _ _ _ ?_
                          refine RL.p T ?_
                          refine RL.nil _ _ _ _ ?_
                          refine hK33 _ _ _ ?_
                          refine SW.ret ?_
                          refine retQ.rr (H) ?_
                          clear hK33 K33 hK31 K31 hK30 K30 hK24 K24 hK18 K18 hK17 K17 hK16 K16 hK15 K15 hK14 K14 hK13 K13 hK12 K12 hK11 K11 hK10 K10 hK9 K9 hK6 K6 hK5 K5 hK4 K4 hK2 K2 hK1 K1 hK0 K0
                          first
                            | exact ⟨rfl, rfl⟩
                            | exact ⟨boolE (decide_eq_true (by omega)), rfl⟩
                          )
                       ·skip
                        first
                         | (exfalso; first | omega | contradiction | (clear hK31 K31; clear hK30 K30; clear hK24 K24; clear hK18 K18; clear hK17 K17; clear hK16 K16; clear hK15 K15; clear hK14 K14; clear hK13 K13; clear hK12 K12; clear hK11 K11; clear hK10 K10; clear hK9 K9; clear hK6 K6; clear hK5 K5; clear hK4 K4; clear hK2 K2; clear hK1 K1; clear hK0 K0; simp at *; done))
                         | (
                          refine SW.skip ?_
                          refine hK17 _ _ _ ?_
                          refine SW.seq_k fun K34 hK34 => ?_
                          refine SW.region _ _ _ _ ?_
                          refine RL.p T ?_
                          refine RL.c fun13 (fun hs => SC.wk (qlen bq (r : Nat) last' a' n' c' (H := .row a' n' c' 80 13 (List.flatMap EnC (L')) :: (D ++ (G ++ H))))) ?_
                          rintro _ _ ⟨rfl, e⟩; obtain rfl := e.symm
                          refine RL.p T ?_
                          refine RL.p T ?_
                          refine RL.nil _ _ _ _ ?_
                          refine hK34 _ _ _ ?_
                          refine SW.cs (fun hc10 => ?_) (fun hc10 => ?_)
                          ·skip
                           first
                            | (exfalso; first | omega | contradiction | (clear hK34 K34; clear hK31 K31; clear hK30 K30; clear hK24 K24; clear hK18 K18; clear hK17 K17; clear hK16 K16; clear hK15 K15; clear hK14 K14; clear hK13 K13; clear hK12 K12; clear hK11 K11; clear hK10 K10; clear hK9 K9; clear hK6 K6; clear hK5 K5; clear hK4 K4; clear hK2 K2; clear hK1 K1; clear hK0 K0; simp at *; done))
                            | (
                             refine SW.seq_k fun K35 hK35 => ?_
                             refine SW.region _ _ _ _ ?_
                             refine RL.p T ?_
                             refine RL.nil _ _ _ _ ?_
                             refine hK35 _ _ _ ?_
                             refine SW.ret ?_
                             refine retQ.rr (H) ?_
                             clear hK35 K35 hK34 K34 hK31 K31 hK30 K30 hK24 K24 hK18 K18 hK17 K17 hK16 K16 hK15 K15 hK14 K14 hK13 K13 hK12 K12 hK11 K11 hK10 K10 hK9 K9 hK6 K6 hK5 K5 hK4 K4 hK2 K2 hK1 K1 hK0 K0
                             first
                               | exact ⟨rfl, rfl⟩
                               | exact ⟨boolE (decide_eq_true (by omega)), rfl⟩
                             )
                          ·skip
                           first
                            | (exfalso; first | omega | contradiction | (clear hK34 K34; clear hK31 K31; clear hK30 K30; clear hK24 K24; clear hK18 K18; clear hK17 K17; clear hK16 K16; clear hK15 K15; clear hK14 K14; clear hK13 K13; clear hK12 K12; clear hK11 K11; clear hK10 K10; clear hK9 K9; clear hK6 K6; clear hK5 K5; clear hK4 K4; clear hK2 K2; clear hK1 K1; clear hK0 K0; simp at *; done))
                            | (
                             refine SW.skip ?_
                             refine hK14 _ _ _ ?_
                             refine SW.region _ _ _ _ ?_
                             first | refine RL.ar ?_ | refine RL.p T ?_
                             refine RL.p T ?_
                             obtain rfl : last' = ((n' : Nat) : Int) := by omega
                             refine RL.wk (.var bq 73 [.int .i64 (r : Nat), .int .i64 (n' : Nat), .slice a' n' c'] :: .row a' n' c' 80 13 (List.flatMap EnC (L')) :: ((D ++ G) ++ H)) ?_
                             refine RL.nil _ _ _ _ ?_
                             exact ⟨nr - (k + 1), (by omega), k + 1, n', a', c', L', D ++ G, (by rfl), ⟨by omega, ⟨hn'.symm, by omega, ok_put hLm.symm hL' hok⟩⟩, (.cons rfl (.consI rfl (by first | omega | rfl) (.nil (by repeat first | with_reducible exact Mx.refl | with_reducible exact Mx.mix | refine Mx.put rfl ?_ | refine Mx.upd rfl ?_ | refine Mx.updl rfl ?_ | refine Mx.fin rfl ?_ | refine Mx.inner rfl ?_ | refine Mx.none ?_ | exact Mx.refl | exact Mx.mix)))), rfl, rfl⟩
                             )
                          )
                       )
                    )
                 )
              )
           ·skip
            first
             | (exfalso; first | omega | contradiction | (clear hK13 K13; clear hK12 K12; clear hK11 K11; clear hK10 K10; clear hK9 K9; clear hK6 K6; clear hK5 K5; clear hK4 K4; clear hK2 K2; clear hK1 K1; clear hK0 K0; simp at *; done))
             | (
              refine SW.exit ?_
              refine hK10 _ _ _ ?_
              refine SW.seq_k fun K36 hK36 => ?_
              refine SW.seq_k fun K37 hK37 => ?_
              refine SW.region _ _ _ _ ?_
              refine RL.p T ?_
              refine RL.p T ?_
              refine RL.nil _ _ _ _ ?_
              refine hK37 _ _ _ ?_
              refine SW.cs (fun hc11 => ?_) (fun hc11 => ?_)
              ·skip
               first
                | (exfalso; first | omega | contradiction | (clear hK37 K37; clear hK36 K36; clear hK13 K13; clear hK12 K12; clear hK11 K11; clear hK10 K10; clear hK9 K9; clear hK6 K6; clear hK5 K5; clear hK4 K4; clear hK2 K2; clear hK1 K1; clear hK0 K0; simp at *; done))
                | (
                 refine SW.seq_k fun K38 hK38 => ?_
                 refine SW.region _ _ _ _ ?_
                 refine RL.p T ?_
                 refine RL.nil _ _ _ _ ?_
                 refine hK38 _ _ _ ?_
                 refine SW.ret ?_
                 refine retQ.rr (H) ?_
                 clear hK38 K38 hK37 K37 hK36 K36 hK13 K13 hK12 K12 hK11 K11 hK10 K10 hK9 K9 hK6 K6 hK5 K5 hK4 K4 hK2 K2 hK1 K1 hK0 K0
                 first
                   | exact ⟨rfl, rfl⟩
                   | exact ⟨boolE (decide_eq_true (by omega)), rfl⟩
                 )
              ·skip
               first
                | (exfalso; first | omega | contradiction | (clear hK37 K37; clear hK36 K36; clear hK13 K13; clear hK12 K12; clear hK11 K11; clear hK10 K10; clear hK9 K9; clear hK6 K6; clear hK5 K5; clear hK4 K4; clear hK2 K2; clear hK1 K1; clear hK0 K0; simp at *; done))
                | (
                 refine SW.skip ?_
                 refine hK36 _ _ _ ?_
                 refine SW.seq_k fun K39 hK39 => ?_
                 refine SW.region _ _ _ _ ?_
                 refine RL.p T ?_
                 refine RL.c fun14 (fun hs => SC.wk (take_ok bq (r : Nat) (m : Nat) a m c L hLm.symm (by omega) (by omega) ((hok _ (gE_mem (by omega))).appr) (H := G ++ H))) ?_
                 rintro _ _ ⟨p4, s4, rfl, e⟩; obtain rfl := e.symm
                 refine RL.nil _ _ _ _ ?_
                 refine hK39 _ _ _ ?_
                 refine SW.seq_k fun K40 hK40 => ?_
                 refine SW.region _ _ _ _ ?_
                 refine RL.p T ?_
                 refine RL.c fun15 (fun hs => fF 1 (by omega) (by omega)) ?_
                 rintro _ _ ⟨f1, rfl, e⟩; obtain rfl := e.symm
                 refine RL.sat (fun hs => ?_)
                 have hF1 : FsOk w0 [.row f1 1 1 5 1 ((fz 1).data.map (.int .u8))] (⟨fz 1, f1, 1, 1⟩ : Fs) := ⟨rfl, Nat.le_of_ble_eq_true rfl, fz_ok (by omega) (by omega), Rd.rowh (satT (H0 := [.row f1 1 1 5 1 ((fz 1).data.map (.int .u8))]) hs) (At.head _ _)⟩
                 clear hs
                 have hpl := popL_len L
                 refine RL.c fun11 (fun hs => SC.wk (put_ok bq (r : Nat) (m : Nat) a (m - 1) c ((popL L).take (m - 1)) (by rw [List.length_take]; omega) (by omega) (⟨fz 1, f1, 1, 1⟩ : Fs) (hF1.sub SubL.by) rfl (by omega) (by omega) (by omega) (H := .row f1 1 1 5 1 ((fz 1).data.map (.int .u8)) :: H))) ?_
                 rintro _ _ ⟨p5, s5, a5, c5, rfl, e⟩; obtain rfl := e.symm
                 refine RL.p T ?_
                 refine RL.p T ?_
                 refine RL.p T ?_
                 refine RL.p T ?_
                 refine RL.p T ?_
                 refine RL.nil _ _ _ _ ?_
                 refine hK40 _ _ _ ?_
                 refine SW.seq_k fun K41 hK41 => ?_
                 refine SW.region _ _ _ _ ?_
                 refine RL.p T ?_
                 refine RL.p T ?_
                 refine RL.p T ?_
                 refine RL.sp 92 (fun hs6 => ?_) (fun hs6 => ?_)
                 ·skip
                  first
                   | (exfalso; first | omega | contradiction | (clear hK41 K41; clear hK40 K40; clear hK39 K39; clear hK37 K37; clear hK36 K36; clear hK13 K13; clear hK12 K12; clear hK11 K11; clear hK10 K10; clear hK9 K9; clear hK6 K6; clear hK5 K5; clear hK4 K4; clear hK2 K2; clear hK1 K1; clear hK0 K0; simp at *; done))
                   | (
                    refine RL.p T ?_
                    refine RL.p T ?_
                    first | refine RL.ar ?_ | refine RL.p T ?_
                    refine RL.p T ?_
                    refine RL.p T ?_
                    refine RL.p T ?_
                    refine RL.nil _ _ _ _ ?_
                    refine hK41 _ _ _ ?_
                    refine SW.ret ?_
                    refine retQ.rr (H) ?_
                    clear hK41 K41 hK40 K40 hK39 K39 hK37 K37 hK36 K36 hK13 K13 hK12 K12 hK11 K11 hK10 K10 hK9 K9 hK6 K6 hK5 K5 hK4 K4 hK2 K2 hK1 K1 hK0 K0
                    first
                      | exact ⟨rfl, rfl⟩
                      | exact ⟨boolE (decide_eq_true (by omega)), rfl⟩
                    )
                 ·skip
                  first
                   | (exfalso; first | omega | contradiction | (clear hK41 K41; clear hK40 K40; clear hK39 K39; clear hK37 K37; clear hK36 K36; clear hK13 K13; clear hK12 K12; clear hK11 K11; clear hK10 K10; clear hK9 K9; clear hK6 K6; clear hK5 K5; clear hK4 K4; clear hK2 K2; clear hK1 K1; clear hK0 K0; simp at *; done))
                   | (
                    refine RL.guard_no rfl rfl rfl ?_
                    refine RL.guard_no rfl rfl rfl ?_
                    refine RL.guard_no rfl rfl rfl ?_
                    refine RL.guard_no rfl rfl rfl ?_
                    refine RL.p T ?_
                    refine RL.p T ?_
                    refine RL.nil _ _ _ _ ?_
                    refine hK41 _ _ _ ?_
                    refine SW.ret ?_
                    refine retQ.rr (H) ?_
                    clear hK41 K41 hK40 K40 hK39 K39 hK37 K37 hK36 K36 hK13 K13 hK12 K12 hK11 K11 hK10 K10 hK9 K9 hK6 K6 hK5 K5 hK4 K4 hK2 K2 hK1 K1 hK0 K0
                    first
                      | exact ⟨rfl, rfl⟩
                      | exact ⟨boolE (decide_eq_true (by omega)), rfl⟩
                    )
                 )
              )
          )
       )
    )
theorem queueRoom {w0 : World} {H : List Chunk} (room : Int) (ls : List Fs) (sr : Option Addr) (nr cr : Nat) (hB : ∀ H, Rd w0 H sr nr cr 11 (ls.flatMap FsC)) (hnr : nr = ls.length) (hmr : nr ≤ 4398046511000) (hls : ∀ H, ∀ y ∈ ls, FsOk w0 H y) : SC Try.prog w0 3 #[.int .i64 room, .slice sr nr cr] H (fun v H' => v = .bool true ∧ H' = H) := by
  by_cases h : room < 0 ∨ 64 < room
  · exact queueRoom_bad room h ls sr nr cr hB hnr hmr hls
  · obtain ⟨r, rfl⟩ := Int.eq_ofNat_of_zero_le (show 0 ≤ room by omega)
    exact queueRoom_ok r (by omega) ls sr nr cr hB hnr hmr hls
end Go.Proofs.Ytjemdjjmpgjieaa.M
