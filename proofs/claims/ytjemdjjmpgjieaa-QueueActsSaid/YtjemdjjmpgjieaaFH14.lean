import Derived.Test.YtjemdjjmpgjieaaProg
import Derived.Test.YtjemdjjmpgjieaaFG14
import Derived.Test.YtjemdjjmpgjieaaS36
import Derived.Test.YtjemdjjmpgjieaaP14f
set_option linter.unusedVariables false
set_option linter.unusedSimpArgs false
namespace Go.Proofs.Ytjemdjjmpgjieaa.M
open Go Go.Sep Go.Proofs
set_option maxRecDepth 10000
set_option maxHeartbeats 2000000
theorem alive {w0 : World} {H : List Chunk}  : SC Try.prog w0 9 #[] H (fun v H' => v = .bool true ∧ H' = H) := by
 refine SC.enter Try.func9 rfl (Nat.le_of_ble_eq_true rfl) ?_
 refine SW.seq_k fun K0 hK0 => ?_
 refine SW.region _ _ _ _ ?_
 refine RL.p T ?_
 refine RL.nil _ _ _ _ ?_
 refine hK0 _ _ _ ?_
 refine SW.seq_k fun K1 hK1 => ?_
 refine SW.region _ _ _ _ ?_
 refine RL.c fun10 (fun hs => qnew 3 (by omega)) ?_
 rintro _ _ ⟨bq, rfl, e⟩; obtain rfl := e.symm
 refine RL.p T ?_
 refine RL.p T ?_
 refine RL.p T ?_
 refine RL.p T ?_
 refine RL.p T ?_
 refine RL.nil _ _ _ _ ?_
 refine hK1 _ _ _ ?_
 refine SW.seq_k fun K2 hK2 => ?_
 refine SW.seq_k fun K3 hK3 => ?_
 refine SW.region _ _ _ _ ?_
 refine RL.p T ?_
 refine RL.p T ?_
 refine RL.p T ?_
 refine RL.sp 16 (fun hs0 => ?_) (fun hs0 => ?_)
 ·skip
  first
   | (exfalso; first | omega | contradiction | (clear hK3 K3; clear hK2 K2; clear hK1 K1; clear hK0 K0; simp at *; done))
   | (
    refine RL.guard_no rfl rfl rfl ?_
    refine RL.guard_no rfl rfl rfl ?_
    refine RL.p T ?_
    refine RL.nil _ _ _ _ ?_
    refine hK3 _ _ _ ?_
    refine SW.cond_t rfl ?_
    refine SW.seq_k fun K4 hK4 => ?_
    refine SW.region _ _ _ _ ?_
    refine RL.p T ?_
    refine RL.nil _ _ _ _ ?_
    refine hK4 _ _ _ ?_
    refine SW.ret ?_
    refine retQ.rr (H) ?_
    clear hK4 K4 hK3 K3 hK2 K2 hK1 K1 hK0 K0
    exact ⟨rfl, rfl⟩
    )
 ·skip
  first
   | (exfalso; first | omega | contradiction | (clear hK3 K3; clear hK2 K2; clear hK1 K1; clear hK0 K0; simp at *; done))
   | (
    refine RL.p T ?_
    refine RL.p T ?_
    refine RL.p T ?_
    refine RL.nil _ _ _ _ ?_
    refine hK3 _ _ _ ?_
    refine SW.cs (fun hc0 => ?_) (fun hc0 => ?_)
    ·skip
     first
      | (exfalso; first | omega | contradiction | (clear hK3 K3; clear hK2 K2; clear hK1 K1; clear hK0 K0; simp at *; done))
      | (
       refine SW.seq_k fun K5 hK5 => ?_
       refine SW.region _ _ _ _ ?_
       refine RL.p T ?_
       refine RL.nil _ _ _ _ ?_
       refine hK5 _ _ _ ?_
       refine SW.ret ?_
       refine retQ.rr (H) ?_
       clear hK5 K5 hK3 K3 hK2 K2 hK1 K1 hK0 K0
       exact ⟨rfl, rfl⟩
       )
    ·skip
     first
      | (exfalso; first | omega | contradiction | (clear hK3 K3; clear hK2 K2; clear hK1 K1; clear hK0 K0; simp at *; done))
      | (
       refine SW.skip ?_
       refine hK2 _ _ _ ?_
       refine SW.seq_k fun K6 hK6 => ?_
       refine SW.nilrow 80 13 ?_
       refine SW.wk (.var bq 73 [.int .i64 (3 : Nat), .int .i64 0, .slice none 0 0] :: .row none 0 0 80 13 (List.flatMap EnC ([])) :: H) ?_
       refine SW.region _ _ _ _ ?_
       refine RL.p T ?_
       refine RL.c fun15 (fun hs => fF 5 (by omega) (by omega)) ?_
       rintro _ _ ⟨f1, rfl, e⟩; obtain rfl := e.symm
       refine RL.sat (fun hs => ?_)
       have hF1 : FsOk w0 [.row f1 1 1 5 1 ((fz 5).data.map (.int .u8))] (⟨fz 5, f1, 1, 1⟩ : Fs) := ⟨rfl, Nat.le_of_ble_eq_true rfl, fz_ok (by omega) (by omega), Rd.rowh (satT (H0 := [.row f1 1 1 5 1 ((fz 5).data.map (.int .u8))]) hs) (At.head _ _)⟩
       clear hs
       refine RL.c fun11 (fun hs => SC.wk (put_ok bq (3 : Nat) 0 none 0 0 [] rfl (by omega) (⟨fz 5, f1, 1, 1⟩ : Fs) (hF1.sub SubL.by) rfl (by omega) (by omega) (by omega) (H := .row f1 1 1 5 1 ((fz 5).data.map (.int .u8)) :: H))) ?_
       rintro _ _ ⟨p1, s1, a1, c1, rfl, e⟩; obtain rfl := e.symm
       refine RL.wk (.var bq 73 [.int .i64 (3 : Nat), .int .i64 (0 + 1), .slice a1 (0 + 1) c1] :: .row a1 (0 + 1) c1 80 13 (List.flatMap EnC ([(⟨(0 + 1), (⟨fz 5, p1, (fz 5).data.length, s1⟩ : Fs), keyF (fz 5)⟩ : En)])) :: .row p1 (fz 5).data.length s1 5 1 ((fz 5).data.map (.int .u8)) :: .row f1 1 1 5 1 ((fz 5).data.map (.int .u8)) :: H) ?_ (hs := by rw [alive_1 (⟨fz 5, p1, (fz 5).data.length, s1⟩ : Fs)]; exact SubL.refl _)
       refine RL.sat (fun hs => ?_)
       have hE1 : FsOk w0 [.row p1 (fz 5).data.length s1 5 1 ((fz 5).data.map (.int .u8))] (⟨fz 5, p1, (fz 5).data.length, s1⟩ : Fs) := ⟨rfl, Nat.le_of_ble_eq_true rfl, fz_ok (by omega) (by omega), Rd.rowh (satT (H0 := [.row p1 (fz 5).data.length s1 5 1 ((fz 5).data.map (.int .u8))]) hs) (At.head _ _)⟩
       clear hs
       refine RL.nil _ _ _ _ ?_
       refine hK6 _ _ _ ?_
       refine SW.seq_k fun K7 hK7 => ?_
       refine SW.region _ _ _ _ ?_
       refine RL.p T ?_
       refine RL.c fun15 (fun hs => fF 3 (by omega) (by omega)) ?_
       rintro _ _ ⟨f2, rfl, e⟩; obtain rfl := e.symm
       refine RL.sat (fun hs => ?_)
       have hF2 : FsOk w0 [.row f2 1 1 5 1 ((fz 3).data.map (.int .u8))] (⟨fz 3, f2, 1, 1⟩ : Fs) := ⟨rfl, Nat.le_of_ble_eq_true rfl, fz_ok (by omega) (by omega), Rd.rowh (satT (H0 := [.row f2 1 1 5 1 ((fz 3).data.map (.int .u8))]) hs) (At.head _ _)⟩
       clear hs
       refine RL.c fun11 (fun hs => SC.wk (put_ok bq (3 : Nat) (0 + 1) a1 (0 + 1) c1 [(⟨(0 + 1), (⟨fz 5, p1, (fz 5).data.length, s1⟩ : Fs), keyF (fz 5)⟩ : En)] rfl (by omega) (⟨fz 3, f2, 1, 1⟩ : Fs) (hF2.sub SubL.by) rfl (by omega) (by omega) (by omega) (H := .row f2 1 1 5 1 ((fz 3).data.map (.int .u8)) :: .row p1 (fz 5).data.length s1 5 1 ((fz 5).data.map (.int .u8)) :: .row f1 1 1 5 1 ((fz 5).data.map (.int .u8)) :: H))) ?_
       rintro _ _ ⟨p2, s2, a2, c2, rfl, e⟩; obtain rfl := e.symm
       refine RL.wk (.var bq 73 [.int .i64 (3 : Nat), .int .i64 (0 + 1 + 1), .slice a2 (0 + 1 + 1) c2] :: .row a2 (0 + 1 + 1) c2 80 13 (List.flatMap EnC ([(⟨(0 + 1 + 1), (⟨fz 3, p2, (fz 3).data.length, s2⟩ : Fs), keyF (fz 3)⟩ : En), (⟨(0 + 1), (⟨fz 5, p1, (fz 5).data.length, s1⟩ : Fs), keyF (fz 5)⟩ : En)])) :: .row p2 (fz 3).data.length s2 5 1 ((fz 3).data.map (.int .u8)) :: .row f2 1 1 5 1 ((fz 3).data.map (.int .u8)) :: .row p1 (fz 5).data.length s1 5 1 ((fz 5).data.map (.int .u8)) :: .row f1 1 1 5 1 ((fz 5).data.map (.int .u8)) :: H) ?_ (hs := by rw [alive_2 (⟨fz 5, p1, (fz 5).data.length, s1⟩ : Fs) (⟨fz 3, p2, (fz 3).data.length, s2⟩ : Fs)]; exact SubL.refl _)
       refine RL.sat (fun hs => ?_)
       have hE2 : FsOk w0 [.row p2 (fz 3).data.length s2 5 1 ((fz 3).data.map (.int .u8))] (⟨fz 3, p2, (fz 3).data.length, s2⟩ : Fs) := ⟨rfl, Nat.le_of_ble_eq_true rfl, fz_ok (by omega) (by omega), Rd.rowh (satT (H0 := [.row p2 (fz 3).data.length s2 5 1 ((fz 3).data.map (.int .u8))]) hs) (At.head _ _)⟩
       clear hs
       refine RL.nil _ _ _ _ ?_
       refine hK7 _ _ _ ?_
       refine SW.seq_k fun K8 hK8 => ?_
       refine SW.region _ _ _ _ ?_
       refine RL.p T ?_
       refine RL.c fun15 (fun hs => fF 5 (by omega) (by omega)) ?_
       rintro _ _ ⟨f3, rfl, e⟩; obtain rfl := e.symm
       refine RL.sat (fun hs => ?_)
       have hF3 : FsOk w0 [.row f3 1 1 5 1 ((fz 5).data.map (.int .u8))] (⟨fz 5, f3, 1, 1⟩ : Fs) := ⟨rfl, Nat.le_of_ble_eq_true rfl, fz_ok (by omega) (by omega), Rd.rowh (satT (H0 := [.row f3 1 1 5 1 ((fz 5).data.map (.int .u8))]) hs) (At.head _ _)⟩
       clear hs
       refine RL.c fun11 (fun hs => SC.wk (put_ok bq (3 : Nat) (0 + 1 + 1) a2 (0 + 1 + 1) c2 [(⟨(0 + 1 + 1), (⟨fz 3, p2, (fz 3).data.length, s2⟩ : Fs), keyF (fz 3)⟩ : En), (⟨(0 + 1), (⟨fz 5, p1, (fz 5).data.length, s1⟩ : Fs), keyF (fz 5)⟩ : En)] rfl (by omega) (⟨fz 5, f3, 1, 1⟩ : Fs) (hF3.sub SubL.by) rfl (by omega) (by omega) (by omega) (H := .row f3 1 1 5 1 ((fz 5).data.map (.int .u8)) :: .row p2 (fz 3).data.length s2 5 1 ((fz 3).data.map (.int .u8)) :: .row f2 1 1 5 1 ((fz 3).data.map (.int .u8)) :: .row p1 (fz 5).data.length s1 5 1 ((fz 5).data.map (.int .u8)) :: .row f1 1 1 5 1 ((fz 5).data.map (.int .u8)) :: H))) ?_
       rintro _ _ ⟨p3, s3, a3, c3, rfl, e⟩; obtain rfl := e.symm
       refine RL.wk (.var bq 73 [.int .i64 (3 : Nat), .int .i64 (0 + 1 + 1 + 1), .slice a3 (0 + 1 + 1 + 1) c3] :: .row a3 (0 + 1 + 1 + 1) c3 80 13 (List.flatMap EnC ([(⟨(0 + 1 + 1), (⟨fz 3, p2, (fz 3).data.length, s2⟩ : Fs), keyF (fz 3)⟩ : En), (⟨(0 + 1), (⟨fz 5, p1, (fz 5).data.length, s1⟩ : Fs), keyF (fz 5)⟩ : En), (⟨(0 + 1 + 1 + 1), (⟨fz 5, p3, (fz 5).data.length, s3⟩ : Fs), keyF (fz 5)⟩ : En)])) :: .row p3 (fz 5).data.length s3 5 1 ((fz 5).data.map (.int .u8)) :: .row f3 1 1 5 1 ((fz 5).data.map (.int .u8)) :: .row p2 (fz 3).data.length s2 5 1 ((fz 3).data.map (.int .u8)) :: .row f2 1 1 5 1 ((fz 3).data.map (.int .u8)) :: .row p1 (fz 5).data.length s1 5 1 ((fz 5).data.map (.int .u8)) :: .row f1 1 1 5 1 ((fz 5).data.map (.int .u8)) :: H) ?_ (hs := by rw [alive_3 (⟨fz 5, p1, (fz 5).data.length, s1⟩ : Fs) (⟨fz 3, p2, (fz 3).data.length, s2⟩ : Fs) (⟨fz 5, p3, (fz 5).data.length, s3⟩ : Fs)]; exact SubL.refl _)
       refine RL.sat (fun hs => ?_)
       have hE3 : FsOk w0 [.row p3 (fz 5).data.length s3 5 1 ((fz 5).data.map (.int .u8))] (⟨fz 5, p3, (fz 5).data.length, s3⟩ : Fs) := ⟨rfl, Nat.le_of_ble_eq_true rfl, fz_ok (by omega) (by omega), Rd.rowh (satT (H0 := [.row p3 (fz 5).data.length s3 5 1 ((fz 5).data.map (.int .u8))]) hs) (At.head _ _)⟩
       clear hs
       refine RL.nil _ _ _ _ ?_
       refine hK8 _ _ _ ?_
       refine SW.seq_k fun K9 hK9 => ?_
       refine SW.region _ _ _ _ ?_
       refine RL.p T ?_
       refine RL.c fun14 (fun hs => SC.wk (take_ok bq (3 : Nat) (0 + 1 + 1 + 1) a3 (0 + 1 + 1 + 1) c3 [(⟨(0 + 1 + 1), (⟨fz 3, p2, (fz 3).data.length, s2⟩ : Fs), keyF (fz 3)⟩ : En), (⟨(0 + 1), (⟨fz 5, p1, (fz 5).data.length, s1⟩ : Fs), keyF (fz 5)⟩ : En), (⟨(0 + 1 + 1 + 1), (⟨fz 5, p3, (fz 5).data.length, s3⟩ : Fs), keyF (fz 5)⟩ : En)] rfl (by omega) (by omega) (hE2.sub SubL.by) (H := .row p3 (fz 5).data.length s3 5 1 ((fz 5).data.map (.int .u8)) :: .row f3 1 1 5 1 ((fz 5).data.map (.int .u8)) :: .row p2 (fz 3).data.length s2 5 1 ((fz 3).data.map (.int .u8)) :: .row f2 1 1 5 1 ((fz 3).data.map (.int .u8)) :: .row p1 (fz 5).data.length s1 5 1 ((fz 5).data.map (.int .u8)) :: .row f1 1 1 5 1 ((fz 5).data.map (.int .u8)) :: H))) ?_
       rintro _ _ ⟨p4, s4, rfl, e⟩; obtain rfl := e.symm
       refine RL.wk (.var bq 73 [.int .i64 (3 : Nat), .int .i64 (0 + 1 + 1 + 1), .slice a3 ((0 + 1 + 1 + 1) - 1) c3] :: .row a3 ((0 + 1 + 1 + 1) - 1) c3 80 13 (List.flatMap EnC ([(⟨(0 + 1), (⟨fz 5, p1, (fz 5).data.length, s1⟩ : Fs), keyF (fz 5)⟩ : En), (⟨(0 + 1 + 1 + 1), (⟨fz 5, p3, (fz 5).data.length, s3⟩ : Fs), keyF (fz 5)⟩ : En)])) :: .row p3 (fz 5).data.length s3 5 1 ((fz 5).data.map (.int .u8)) :: .row f3 1 1 5 1 ((fz 5).data.map (.int .u8)) :: .row p2 (fz 3).data.length s2 5 1 ((fz 3).data.map (.int .u8)) :: .row f2 1 1 5 1 ((fz 3).data.map (.int .u8)) :: .row p1 (fz 5).data.length s1 5 1 ((fz 5).data.map (.int .u8)) :: .row f1 1 1 5 1 ((fz 5).data.map (.int .u8)) :: H) ?_ (hs := by rw [alive_4 (⟨fz 5, p1, (fz 5).data.length, s1⟩ : Fs) (⟨fz 3, p2, (fz 3).data.length, s2⟩ : Fs) (⟨fz 5, p3, (fz 5).data.length, s3⟩ : Fs)]; exact SubL.by)
       refine RL.p T ?_
       refine RL.p T ?_
       refine RL.p T ?_
       refine RL.s ?_
       refine NV.alloc T rfl rfl rfl (by exact (rfl : _ = [_, _, _, _, _, _, _, _, _, _, _, _])) ?_
       intro b3_0
       refine RL.s ?_
       refine NV.sN T rfl rfl rfl (by exact (rfl : _ = [_, _, _, _, _, _, _, _, _, _, _, _])) (by exact (rfl : _ = [_, _, _, _, _, _, _, _, _, _, _, _])) ?_
       refine RL.p T ?_
       refine RL.nil _ _ _ _ ?_
       refine hK9 _ _ _ ?_
       refine SW.seq_k fun K10 hK10 => ?_
       refine SW.region _ _ _ _ ?_
       refine RL.p T ?_
       refine RL.c fun14 (fun hs => SC.wk (take_ok bq (3 : Nat) (0 + 1 + 1 + 1) a3 ((0 + 1 + 1 + 1) - 1) c3 [(⟨(0 + 1), (⟨fz 5, p1, (fz 5).data.length, s1⟩ : Fs), keyF (fz 5)⟩ : En), (⟨(0 + 1 + 1 + 1), (⟨fz 5, p3, (fz 5).data.length, s3⟩ : Fs), keyF (fz 5)⟩ : En)] rfl (by omega) (by omega) (hE1.sub SubL.by) (H := .var b3_0 37 [.int .i64 (0 + 1 + 1), .int .i64 (fz 3).kind, .int .u32 (fz 3).id, .bool (fz 3).ext, .bool (fz 3).rtr, .bool (fz 3).brs, .bool (fz 3).esi, .bool (fz 3).sec, .int .u8 (fz 3).sdt, .int .u8 (fz 3).vcid, .int .u32 (fz 3).af, .slice p4 (fz 3).data.length s4] :: .row p3 (fz 5).data.length s3 5 1 ((fz 5).data.map (.int .u8)) :: .row f3 1 1 5 1 ((fz 5).data.map (.int .u8)) :: .row p2 (fz 3).data.length s2 5 1 ((fz 3).data.map (.int .u8)) :: .row f2 1 1 5 1 ((fz 3).data.map (.int .u8)) :: .row p1 (fz 5).data.length s1 5 1 ((fz 5).data.map (.int .u8)) :: .row f1 1 1 5 1 ((fz 5).data.map (.int .u8)) :: H))) ?_
       rintro _ _ ⟨p5, s5, rfl, e⟩; obtain rfl := e.symm
       refine RL.wk (.var bq 73 [.int .i64 (3 : Nat), .int .i64 (0 + 1 + 1 + 1), .slice a3 ((0 + 1 + 1 + 1) - 1 - 1) c3] :: .row a3 ((0 + 1 + 1 + 1) - 1 - 1) c3 80 13 (List.flatMap EnC ([(⟨(0 + 1 + 1 + 1), (⟨fz 5, p3, (fz 5).data.length, s3⟩ : Fs), keyF (fz 5)⟩ : En)])) :: .var b3_0 37 [.int .i64 (0 + 1 + 1), .int .i64 (fz 3).kind, .int .u32 (fz 3).id, .bool (fz 3).ext, .bool (fz 3).rtr, .bool (fz 3).brs, .bool (fz 3).esi, .bool (fz 3).sec, .int .u8 (fz 3).sdt, .int .u8 (fz 3).vcid, .int .u32 (fz 3).af, .slice p4 (fz 3).data.length s4] :: .row p3 (fz 5).data.length s3 5 1 ((fz 5).data.map (.int .u8)) :: .row f3 1 1 5 1 ((fz 5).data.map (.int .u8)) :: .row p2 (fz 3).data.length s2 5 1 ((fz 3).data.map (.int .u8)) :: .row f2 1 1 5 1 ((fz 3).data.map (.int .u8)) :: .row p1 (fz 5).data.length s1 5 1 ((fz 5).data.map (.int .u8)) :: .row f1 1 1 5 1 ((fz 5).data.map (.int .u8)) :: H) ?_ (hs := by rw [alive_5 (⟨fz 5, p1, (fz 5).data.length, s1⟩ : Fs) (⟨fz 5, p3, (fz 5).data.length, s3⟩ : Fs)]; exact SubL.by)
       refine RL.p T ?_
       refine RL.p T ?_
       refine RL.p T ?_
       refine RL.s ?_
       refine NV.alloc T rfl rfl rfl (by exact (rfl : _ = [_, _, _, _, _, _, _, _, _, _, _, _])) ?_
       intro b5_1
       refine RL.s ?_
       refine NV.sN T rfl rfl rfl (by exact (rfl : _ = [_, _, _, _, _, _, _, _, _, _, _, _])) (by exact (rfl : _ = [_, _, _, _, _, _, _, _, _, _, _, _])) ?_
       refine RL.p T ?_
       refine RL.nil _ _ _ _ ?_
       refine hK10 _ _ _ ?_
       refine SW.seq_k fun K11 hK11 => ?_
       refine SW.region _ _ _ _ ?_
       refine RL.p T ?_
       refine RL.c fun21 (fun hs => SC.wk (head_ok bq (3 : Nat) (0 + 1 + 1 + 1) a3 ((0 + 1 + 1 + 1) - 1 - 1) c3 [(⟨(0 + 1 + 1 + 1), (⟨fz 5, p3, (fz 5).data.length, s3⟩ : Fs), keyF (fz 5)⟩ : En)] rfl (by omega) (by omega) (hE3.sub SubL.by) (H := .var b5_1 37 [.int .i64 (0 + 1), .int .i64 (fz 5).kind, .int .u32 (fz 5).id, .bool (fz 5).ext, .bool (fz 5).rtr, .bool (fz 5).brs, .bool (fz 5).esi, .bool (fz 5).sec, .int .u8 (fz 5).sdt, .int .u8 (fz 5).vcid, .int .u32 (fz 5).af, .slice p5 (fz 5).data.length s5] :: .var b3_0 37 [.int .i64 (0 + 1 + 1), .int .i64 (fz 3).kind, .int .u32 (fz 3).id, .bool (fz 3).ext, .bool (fz 3).rtr, .bool (fz 3).brs, .bool (fz 3).esi, .bool (fz 3).sec, .int .u8 (fz 3).sdt, .int .u8 (fz 3).vcid, .int .u32 (fz 3).af, .slice p4 (fz 3).data.length s4] :: .row p3 (fz 5).data.length s3 5 1 ((fz 5).data.map (.int .u8)) :: .row f3 1 1 5 1 ((fz 5).data.map (.int .u8)) :: .row p2 (fz 3).data.length s2 5 1 ((fz 3).data.map (.int .u8)) :: .row f2 1 1 5 1 ((fz 3).data.map (.int .u8)) :: .row p1 (fz 5).data.length s1 5 1 ((fz 5).data.map (.int .u8)) :: .row f1 1 1 5 1 ((fz 5).data.map (.int .u8)) :: H))) ?_
       rintro _ _ ⟨p6, s6, rfl, e⟩; obtain rfl := e.symm
       refine RL.p T ?_
       refine RL.p T ?_
       refine RL.p T ?_
       refine RL.s ?_
       refine NV.alloc T rfl rfl rfl (by exact (rfl : _ = [_, _, _, _, _, _, _, _, _, _, _, _])) ?_
       intro b7_2
       refine RL.s ?_
       refine NV.sN T rfl rfl rfl (by exact (rfl : _ = [_, _, _, _, _, _, _, _, _, _, _, _])) (by exact (rfl : _ = [_, _, _, _, _, _, _, _, _, _, _, _])) ?_
       refine RL.p T ?_
       refine RL.nil _ _ _ _ ?_
       refine hK11 _ _ _ ?_
       refine SW.seq_k fun K12 hK12 => ?_
       refine SW.region _ _ _ _ ?_
       refine RL.p T ?_
       refine RL.nil _ _ _ _ ?_
       refine hK12 _ _ _ ?_
       refine SW.seq_k fun K13 hK13 => ?_
       refine SW.region _ _ _ _ ?_
       refine RL.p T ?_
       refine RL.lv1 T ?_
       refine RL.p T ?_
       refine RL.p T ?_
       refine RL.sp 47 (fun hs1 => ?_) (fun hs1 => ?_)
       ·skip
        first
         | (exfalso; first | omega | contradiction | (clear hK13 K13; clear hK12 K12; clear hK11 K11; clear hK10 K10; clear hK9 K9; clear hK8 K8; clear hK7 K7; clear hK6 K6; clear hK3 K3; clear hK2 K2; clear hK1 K1; clear hK0 K0; simp at *; done))
         | (
          refine RL.p T ?_
          refine RL.lv1 T ?_
          refine RL.p T ?_
          refine RL.p T ?_
          refine RL.p T ?_
          refine RL.sp 52 (fun hs2 => ?_) (fun hs2 => ?_)
          ·skip
           first
            | (exfalso; first | omega | contradiction | (clear hK13 K13; clear hK12 K12; clear hK11 K11; clear hK10 K10; clear hK9 K9; clear hK8 K8; clear hK7 K7; clear hK6 K6; clear hK3 K3; clear hK2 K2; clear hK1 K1; clear hK0 K0; simp at *; done))
            | (
             refine RL.p T ?_
             refine RL.lv1 T ?_
             refine RL.p T ?_
             refine RL.p T ?_
             refine RL.p T ?_
             refine RL.sp 57 (fun hs3 => ?_) (fun hs3 => ?_)
             ·skip
              first
               | (exfalso; first | omega | contradiction | (clear hK13 K13; clear hK12 K12; clear hK11 K11; clear hK10 K10; clear hK9 K9; clear hK8 K8; clear hK7 K7; clear hK6 K6; clear hK3 K3; clear hK2 K2; clear hK1 K1; clear hK0 K0; simp at *; done))
               | (
                refine RL.p T ?_
                refine RL.c fun13 (fun hs => SC.wk (qlen bq (3 : Nat) (0 + 1 + 1 + 1) a3 ((0 + 1 + 1 + 1) - 1 - 1) c3 (H := .var b7_2 37 [.int .i64 (0 + 1 + 1 + 1), .int .i64 (fz 5).kind, .int .u32 (fz 5).id, .bool (fz 5).ext, .bool (fz 5).rtr, .bool (fz 5).brs, .bool (fz 5).esi, .bool (fz 5).sec, .int .u8 (fz 5).sdt, .int .u8 (fz 5).vcid, .int .u32 (fz 5).af, .slice p6 (fz 5).data.length s6] :: .var b5_1 37 [.int .i64 (0 + 1), .int .i64 (fz 5).kind, .int .u32 (fz 5).id, .bool (fz 5).ext, .bool (fz 5).rtr, .bool (fz 5).brs, .bool (fz 5).esi, .bool (fz 5).sec, .int .u8 (fz 5).sdt, .int .u8 (fz 5).vcid, .int .u32 (fz 5).af, .slice p5 (fz 5).data.length s5] :: .var b3_0 37 [.int .i64 (0 + 1 + 1), .int .i64 (fz 3).kind, .int .u32 (fz 3).id, .bool (fz 3).ext, .bool (fz 3).rtr, .bool (fz 3).brs, .bool (fz 3).esi, .bool (fz 3).sec, .int .u8 (fz 3).sdt, .int .u8 (fz 3).vcid, .int .u32 (fz 3).af, .slice p4 (fz 3).data.length s4] :: H))) ?_
                rintro _ _ ⟨rfl, e⟩; obtain rfl := e.symm
                refine RL.p T ?_
                refine RL.p T ?_
                refine RL.p T ?_
                refine RL.sp 62 (fun hs4 => ?_) (fun hs4 => ?_)
                ·skip
                 first
                  | (exfalso; first | omega | contradiction | (clear hK13 K13; clear hK12 K12; clear hK11 K11; clear hK10 K10; clear hK9 K9; clear hK8 K8; clear hK7 K7; clear hK6 K6; clear hK3 K3; clear hK2 K2; clear hK1 K1; clear hK0 K0; simp at *; done))
                  | (
                   refine RL.p T ?_
                   refine RL.c fun19 (fun hs => cancel_nil 1) ?_
                   rintro _ _ ⟨rfl, e⟩; obtain rfl := e.symm
                   refine RL.p T ?_
                   refine RL.p T ?_
                   refine RL.p T ?_
                   refine RL.nil _ _ _ _ ?_
                   refine hK13 _ _ _ ?_
                   refine SW.ret ?_
                   refine retQ.rr (H) ?_
                   clear hK13 K13 hK12 K12 hK11 K11 hK10 K10 hK9 K9 hK8 K8 hK7 K7 hK6 K6 hK3 K3 hK2 K2 hK1 K1 hK0 K0
                   exact ⟨rfl, rfl⟩
                   )
                ·skip
                 first
                  | (exfalso; first | omega | contradiction | (clear hK13 K13; clear hK12 K12; clear hK11 K11; clear hK10 K10; clear hK9 K9; clear hK8 K8; clear hK7 K7; clear hK6 K6; clear hK3 K3; clear hK2 K2; clear hK1 K1; clear hK0 K0; simp at *; done))
                  | (
                   refine RL.guard_no rfl rfl rfl ?_
                   refine RL.guard_no rfl rfl rfl ?_
                   refine RL.guard_no rfl rfl rfl ?_
                   refine RL.p T ?_
                   refine RL.p T ?_
                   refine RL.nil _ _ _ _ ?_
                   refine hK13 _ _ _ ?_
                   refine SW.ret ?_
                   refine retQ.rr (H) ?_
                   clear hK13 K13 hK12 K12 hK11 K11 hK10 K10 hK9 K9 hK8 K8 hK7 K7 hK6 K6 hK3 K3 hK2 K2 hK1 K1 hK0 K0
                   exact ⟨rfl, rfl⟩
                   )
                )
             ·skip
              first
               | (exfalso; first | omega | contradiction | (clear hK13 K13; clear hK12 K12; clear hK11 K11; clear hK10 K10; clear hK9 K9; clear hK8 K8; clear hK7 K7; clear hK6 K6; clear hK3 K3; clear hK2 K2; clear hK1 K1; clear hK0 K0; simp at *; done))
               | (
                refine RL.guard_no rfl rfl rfl ?_
                refine RL.guard_no rfl rfl rfl ?_
                refine RL.guard_no rfl rfl rfl ?_
                refine RL.p T ?_
                refine RL.p T ?_
                refine RL.guard_no rfl rfl rfl ?_
                refine RL.guard_no rfl rfl rfl ?_
                refine RL.guard_no rfl rfl rfl ?_
                refine RL.p T ?_
                refine RL.p T ?_
                refine RL.nil _ _ _ _ ?_
                refine hK13 _ _ _ ?_
                refine SW.ret ?_
                refine retQ.rr (H) ?_
                clear hK13 K13 hK12 K12 hK11 K11 hK10 K10 hK9 K9 hK8 K8 hK7 K7 hK6 K6 hK3 K3 hK2 K2 hK1 K1 hK0 K0
                exact ⟨rfl, rfl⟩
                )
             )
          ·skip
           first
            | (exfalso; first | omega | contradiction | (clear hK13 K13; clear hK12 K12; clear hK11 K11; clear hK10 K10; clear hK9 K9; clear hK8 K8; clear hK7 K7; clear hK6 K6; clear hK3 K3; clear hK2 K2; clear hK1 K1; clear hK0 K0; simp at *; done))
            | (
             refine RL.guard_no rfl rfl rfl ?_
             refine RL.guard_no rfl rfl rfl ?_
             refine RL.guard_no rfl rfl rfl ?_
             refine RL.p T ?_
             refine RL.p T ?_
             refine RL.guard_no rfl rfl rfl ?_
             refine RL.guard_no rfl rfl rfl ?_
             refine RL.guard_no rfl rfl rfl ?_
             refine RL.p T ?_
             refine RL.p T ?_
             refine RL.guard_no rfl rfl rfl ?_
             refine RL.guard_no rfl rfl rfl ?_
             refine RL.guard_no rfl rfl rfl ?_
             refine RL.p T ?_
             refine RL.p T ?_
             refine RL.nil _ _ _ _ ?_
             refine hK13 _ _ _ ?_
             refine SW.ret ?_
             refine retQ.rr (H) ?_
             clear hK13 K13 hK12 K12 hK11 K11 hK10 K10 hK9 K9 hK8 K8 hK7 K7 hK6 K6 hK3 K3 hK2 K2 hK1 K1 hK0 K0
             exact ⟨rfl, rfl⟩
             )
          )
       ·skip
        first
         | (exfalso; first | omega | contradiction | (clear hK13 K13; clear hK12 K12; clear hK11 K11; clear hK10 K10; clear hK9 K9; clear hK8 K8; clear hK7 K7; clear hK6 K6; clear hK3 K3; clear hK2 K2; clear hK1 K1; clear hK0 K0; simp at *; done))
         | (
          refine RL.guard_no rfl rfl rfl ?_
          refine RL.guard_no rfl rfl rfl ?_
          refine RL.guard_no rfl rfl rfl ?_
          refine RL.p T ?_
          refine RL.p T ?_
          refine RL.guard_no rfl rfl rfl ?_
          refine RL.guard_no rfl rfl rfl ?_
          refine RL.guard_no rfl rfl rfl ?_
          refine RL.p T ?_
          refine RL.p T ?_
          refine RL.guard_no rfl rfl rfl ?_
          refine RL.guard_no rfl rfl rfl ?_
          refine RL.guard_no rfl rfl rfl ?_
          refine RL.p T ?_
          refine RL.p T ?_
          refine RL.guard_no rfl rfl rfl ?_
          refine RL.guard_no rfl rfl rfl ?_
          refine RL.guard_no rfl rfl rfl ?_
          refine RL.p T ?_
          refine RL.p T ?_
          refine RL.nil _ _ _ _ ?_
          refine hK13 _ _ _ ?_
          refine SW.ret ?_
          refine retQ.rr (H) ?_
          clear hK13 K13 hK12 K12 hK11 K11 hK10 K10 hK9 K9 hK8 K8 hK7 K7 hK6 K6 hK3 K3 hK2 K2 hK1 K1 hK0 K0
          exact ⟨rfl, rfl⟩
          )
       )
    )
end Go.Proofs.Ytjemdjjmpgjieaa.M
