import Derived.Test.YtojghialjpianaaProg
import Derived.Test.YtojghialjpianaaFA16
set_option linter.unusedVariables false
set_option linter.unusedSimpArgs false
namespace Go.Proofs.Ytojghialjpianaa.M
open Go Go.Sep Go.Proofs
set_option maxRecDepth 10000
set_option maxHeartbeats 2000000
theorem fnew {w0 : World} {H : List Chunk} (room : Nat) (h : room ≤ 64) : SC Try.prog w0 10 #[.int .i64 (room : Nat)] H (fun v H' => ∃ b, v = .tuple #[.pointer (some ⟨b, 0, none⟩), .int .i64 0] ∧ H' = .var b 57 (FifoC (fun _ => default) (room : Nat) ((0 : Nat) : Int) ((0 : Nat) : Int) ((0 : Nat) : Int)) :: H) := by
 refine SC.enter Try.func10 rfl (Nat.le_of_ble_eq_true rfl) ?_
 refine SW.seq_k fun K0 hK0 => ?_
 refine SW.region _ _ _ _ ?_
 refine RL.p T ?_
 refine RL.p T ?_
 refine RL.nil _ _ _ _ ?_
 refine hK0 _ _ _ ?_
 refine SW.seq_k fun K1 hK1 => ?_
 refine SW.seq_k fun K2 hK2 => ?_
 refine SW.region _ _ _ _ ?_
 refine RL.p T ?_
 refine RL.p T ?_
 refine RL.p T ?_
 refine RL.join (fr1 := ?_) 2 6 false [7, 8] (fun hs0 hj => ?_) ?_ ?_
 rotate_left
 ·have hs0j := hs0
  try simp only [decide_eq_true_eq, Bool.not_eq_true', decide_eq_false_iff_not, Bool.not_eq_false', Int.not_lt, Int.not_le, Int.toNat_natCast, Bool.and_eq_true, Bool.or_eq_true, Bool.and_eq_false_iff, Bool.or_eq_false_iff] at hs0
  refine RL.p T ?_
  refine RL.p T ?_
  exact hj
 ·repeat first | exact Mx.refl | exact Mx.mix | refine Mx.put rfl ?_ | refine Mx.upd rfl ?_ | refine Mx.updl rfl ?_ | refine Mx.fin rfl ?_ | refine Mx.inner rfl ?_ | refine Mx.none ?_
 refine RL.or ?_
 refine RL.nil _ _ _ _ ?_
 refine hK2 _ _ _ ?_
 refine SW.cs (fun hc0 => ?_) (fun hc0 => ?_)
 ·skip
  first
   | (exfalso; first | omega | contradiction | (simp at *; done))
   | (
    refine SW.seq_k fun K3 hK3 => ?_
    refine SW.region _ _ _ _ ?_
    refine RL.p T ?_
    refine RL.p T ?_
    refine RL.nil _ _ _ _ ?_
    refine hK3 _ _ _ ?_
    refine SW.ret ?_
    refine retQ.rr _ ?_ (hH := fun w hw => hw)
    clear hK3 K3 hK2 K2 hK1 K1 hK0 K0
    exact ⟨b12_0, rfl, rfl⟩
    )
 ·skip
  first
   | (exfalso; first | omega | contradiction | (simp at *; done))
   | (
    refine SW.skip ?_
    refine hK1 _ _ _ ?_
    refine SW.seq_k fun K4 hK4 => ?_
    refine SW.region _ _ _ _ ?_
    refine RL.p T ?_
    refine RL.q (pev_sound T (v := .agg (FifoC (fun _ => default) room 0 0 0).toArray) (by kernel_rfl)) ?_
    refine RL.s ?_
    refine NV.boxF (R := fun _ => default) (room := room) (first := 0) (n := 0) (over := 0) rfl rfl ?_
    intro b12_0
    refine RL.p T ?_
    refine RL.p T ?_
    refine RL.nil _ _ _ _ ?_
    refine hK4 _ _ _ ?_
    refine SW.ret ?_
    refine retQ.rr _ ?_ (hH := fun w hw => hw)
    clear hK4 K4 hK2 K2 hK1 K1 hK0 K0
    exact ⟨b12_0, rfl, rfl⟩
    )
theorem fnew_bad {w0 : World} {H : List Chunk} (room : Int) (h : room < 0 ∨ 64 < room) : SC Try.prog w0 10 #[.int .i64 room] H (fun v H' => v = .tuple #[.pointer none, .int .i64 2] ∧ H' = H) := by
 refine SC.enter Try.func10 rfl (Nat.le_of_ble_eq_true rfl) ?_
 refine SW.seq_k fun K0 hK0 => ?_
 refine SW.region _ _ _ _ ?_
 refine RL.p T ?_
 refine RL.p T ?_
 refine RL.nil _ _ _ _ ?_
 refine hK0 _ _ _ ?_
 refine SW.seq_k fun K1 hK1 => ?_
 refine SW.seq_k fun K2 hK2 => ?_
 refine SW.region _ _ _ _ ?_
 refine RL.p T ?_
 refine RL.p T ?_
 refine RL.p T ?_
 refine RL.join (fr1 := ?_) 2 6 false [7, 8] (fun hs0 hj => ?_) ?_ ?_
 rotate_left
 ·have hs0j := hs0
  try simp only [decide_eq_true_eq, Bool.not_eq_true', decide_eq_false_iff_not, Bool.not_eq_false', Int.not_lt, Int.not_le, Int.toNat_natCast, Bool.and_eq_true, Bool.or_eq_true, Bool.and_eq_false_iff, Bool.or_eq_false_iff] at hs0
  refine RL.p T ?_
  refine RL.p T ?_
  exact hj
 ·repeat first | exact Mx.refl | exact Mx.mix | refine Mx.put rfl ?_ | refine Mx.upd rfl ?_ | refine Mx.updl rfl ?_ | refine Mx.fin rfl ?_ | refine Mx.inner rfl ?_ | refine Mx.none ?_
 refine RL.or ?_
 refine RL.nil _ _ _ _ ?_
 refine hK2 _ _ _ ?_
 refine SW.cs (fun hc0 => ?_) (fun hc0 => ?_)
 ·skip
  first
   | (exfalso; first | omega | contradiction | (simp at *; done))
   | (
    refine SW.seq_k fun K3 hK3 => ?_
    refine SW.region _ _ _ _ ?_
    refine RL.p T ?_
    refine RL.p T ?_
    refine RL.nil _ _ _ _ ?_
    refine hK3 _ _ _ ?_
    refine SW.ret ?_
    refine retQ.rr (H) ?_
    clear hK3 K3 hK2 K2 hK1 K1 hK0 K0
    exact ⟨rfl, rfl⟩
    )
 ·skip
  first
   | (exfalso; first | omega | contradiction | (simp at *; done))
   | (
    refine SW.skip ?_
    refine hK1 _ _ _ ?_
    refine SW.seq_k fun K4 hK4 => ?_
    refine SW.region _ _ _ _ ?_
    refine RL.p T ?_
    refine RL.s ?_
    refine NV.p T ?_
    refine RL.s ?_
    refine NV.box rfl rfl ?_
    intro b12_0
    refine RL.p T ?_
    refine RL.p T ?_
    refine RL.nil _ _ _ _ ?_
    refine hK4 _ _ _ ?_
    refine SW.ret ?_
    refine retQ.rr (H) ?_
    clear hK4 K4 hK2 K2 hK1 K1 hK0 K0
    exact ⟨rfl, rfl⟩
    )
theorem fat {w0 : World} {H : List Chunk} (b : Nat) (R : Nat → Fs) (room first n over : Nat) (kk : Chunk → List Chunk) (hat : At H (.var b 57 (FifoC R room first n over)) kk) (i : Nat) (hf : first < 64) (hi : i ≤ 64) : SC Try.prog w0 25 #[.pointer (some ⟨b, 0, none⟩), .int .i64 i] H (fun v H' => v = .pointer (some ⟨b, ((first + i) % 64) * 11, none⟩) ∧ H' = H) := by
 refine SC.enter Try.func25 rfl (Nat.le_of_ble_eq_true rfl) ?_
 refine SW.seq_k fun K0 hK0 => ?_
 refine SW.region _ _ _ _ ?_
 refine RL.p T ?_
 refine RL.nil _ _ _ _ ?_
 refine hK0 _ _ _ ?_
 refine SW.seq_k fun K1 hK1 => ?_
 refine SW.drawQ [(5, 0), (6, 1), (7, 2), (8, 3), (9, 4), (10, 5), (11, 6), (12, 7), (13, 8), (14, 9), (15, 10), (4, 11)] [[], [], [1], [2, 1], [3, 2, 1], [], [4, 3, 2, 1, 5], [6, 4, 3, 2, 1, 5], [0], [8, 0], [9, 8, 0, 7, 6, 4, 3, 2, 1, 5], [10, 9, 8, 0, 7, 6, 4, 3, 2, 1, 5]] mixed (by kernel_rfl) (by kernel_rfl) ?_
 refine QL.p T ?_
 refine QL.p T ?_
 refine QL.p T ?_
 refine QL.p T ?_
 refine QL.q (QV.fld 1 T rfl) ?_
 refine QL.p T ?_
 first | refine QL.ar ?_ | refine QL.p T ?_
 refine QL.step (by first | exact Gd.none rfl | exact Gd.yes rfl rfl | exact Gd.yes rfl (congrArg Value.bool (by assumption))) rfl (QV.as (QV.remP (b := 64) rfl rfl rfl (by omega) (by omega)) (show Value.int .i64 (((first : Int) + i) % 64) = .int .i64 (((first + i) % 64 : Nat) : Int) from by rw [Int.natCast_emod]; rfl)) ?_
 refine QL.p T ?_
 refine QL.p T ?_
 refine QL.ixa T ?_
 refine QL.p T ?_
 refine QL.nil ?_
 refine hK1 _ _ _ ?_
 refine SW.ret ?_
 refine retQ.rr (H) ?_
 clear hK1 K1 hK0 K0
 exact ⟨(congrArg (fun a => Value.pointer (some a)) ((addv b 0 ((first + i) % 64 * 11)).trans (by rw [Nat.zero_add]))), rfl⟩
theorem flen {w0 : World} {H : List Chunk} (b : Nat) (R : Nat → Fs) (room first n over : Nat) (kk : Chunk → List Chunk) (hat : At H (.var b 57 (FifoC R room first n over)) kk) : SC Try.prog w0 13 #[.pointer (some ⟨b, 0, none⟩)] H (fun v H' => v = .int .i64 n ∧ H' = H) := by
 refine SC.enter Try.func13 rfl (Nat.le_of_ble_eq_true rfl) ?_
 refine SW.seq_k fun K0 hK0 => ?_
 refine SW.region _ _ _ _ ?_
 refine RL.p T ?_
 refine RL.nil _ _ _ _ ?_
 refine hK0 _ _ _ ?_
 refine SW.seq_k fun K1 hK1 => ?_
 refine SW.seq_k fun K2 hK2 => ?_
 refine SW.region _ _ _ _ ?_
 refine RL.p T ?_
 refine RL.p T ?_
 refine RL.nil _ _ _ _ ?_
 refine hK2 _ _ _ ?_
 refine SW.cs (fun hc0 => ?_) (fun hc0 => ?_)
 ·skip
  first
   | (exfalso; first | omega | contradiction | (simp at *; done))
   | (
    refine SW.seq_k fun K3 hK3 => ?_
    refine SW.region _ _ _ _ ?_
    refine RL.p T ?_
    refine RL.nil _ _ _ _ ?_
    refine hK3 _ _ _ ?_
    refine SW.ret ?_
    refine retQ.rr (H) ?_
    clear hK3 K3 hK2 K2 hK1 K1 hK0 K0
    exact ⟨rfl, rfl⟩
    )
 ·skip
  first
   | (exfalso; first | omega | contradiction | (simp at *; done))
   | (
    refine SW.skip ?_
    refine hK1 _ _ _ ?_
    refine SW.seq_k fun K4 hK4 => ?_
    refine SW.region _ _ _ _ ?_
    refine RL.p T ?_
    refine RL.p T ?_
    refine RL.p T ?_
    refine RL.q (QV.fld 2 T rfl) ?_
    refine RL.p T ?_
    refine RL.nil _ _ _ _ ?_
    refine hK4 _ _ _ ?_
    refine SW.ret ?_
    refine retQ.rr (H) ?_
    clear hK4 K4 hK2 K2 hK1 K1 hK0 K0
    exact ⟨rfl, rfl⟩
    )
theorem fover {w0 : World} {H : List Chunk} (b : Nat) (R : Nat → Fs) (room first n over : Nat) (kk : Chunk → List Chunk) (hat : At H (.var b 57 (FifoC R room first n over)) kk) : SC Try.prog w0 14 #[.pointer (some ⟨b, 0, none⟩)] H (fun v H' => v = .int .i64 over ∧ H' = H) := by
 refine SC.enter Try.func14 rfl (Nat.le_of_ble_eq_true rfl) ?_
 refine SW.seq_k fun K0 hK0 => ?_
 refine SW.region _ _ _ _ ?_
 refine RL.p T ?_
 refine RL.nil _ _ _ _ ?_
 refine hK0 _ _ _ ?_
 refine SW.seq_k fun K1 hK1 => ?_
 refine SW.seq_k fun K2 hK2 => ?_
 refine SW.region _ _ _ _ ?_
 refine RL.p T ?_
 refine RL.p T ?_
 refine RL.nil _ _ _ _ ?_
 refine hK2 _ _ _ ?_
 refine SW.cs (fun hc0 => ?_) (fun hc0 => ?_)
 ·skip
  first
   | (exfalso; first | omega | contradiction | (simp at *; done))
   | (
    refine SW.seq_k fun K3 hK3 => ?_
    refine SW.region _ _ _ _ ?_
    refine RL.p T ?_
    refine RL.nil _ _ _ _ ?_
    refine hK3 _ _ _ ?_
    refine SW.ret ?_
    refine retQ.rr (H) ?_
    clear hK3 K3 hK2 K2 hK1 K1 hK0 K0
    exact ⟨rfl, rfl⟩
    )
 ·skip
  first
   | (exfalso; first | omega | contradiction | (simp at *; done))
   | (
    refine SW.skip ?_
    refine hK1 _ _ _ ?_
    refine SW.seq_k fun K4 hK4 => ?_
    refine SW.region _ _ _ _ ?_
    refine RL.p T ?_
    refine RL.p T ?_
    refine RL.p T ?_
    refine RL.q (QV.fld 3 T rfl) ?_
    refine RL.p T ?_
    refine RL.nil _ _ _ _ ?_
    refine hK4 _ _ _ ?_
    refine SW.ret ?_
    refine retQ.rr (H) ?_
    clear hK4 K4 hK2 K2 hK1 K1 hK0 K0
    exact ⟨rfl, rfl⟩
    )
theorem push_bad {w0 : World} {H : List Chunk} (b : Nat) (R : Nat → Fs) (room first n over : Nat) (kk : Chunk → List Chunk) (hat : At H (.var b 57 (FifoC R room first n over)) kk) (x : Fs) (hx : FsOk w0 H x) (hc : chkF x.f ≠ 0) : SC Try.prog w0 11 #[.pointer (some ⟨b, 0, none⟩), FsA x] H (fun v H' => v = .tuple #[.bool false, .int .i64 2] ∧ H' = H) := by
 refine SC.enter Try.func11 rfl (Nat.le_of_ble_eq_true rfl) ?_
 refine SW.seq_k fun K0 hK0 => ?_
 refine SW.region _ _ _ _ ?_
 refine RL.s ?_
 refine NV.box rfl (by exact (rfl : _ = [_, _, _, _, _, _, _, _, _, _, _])) ?_
 intro b3_0
 refine RL.p T ?_
 refine RL.p T ?_
 refine RL.nil _ _ _ _ ?_
 refine hK0 _ _ _ ?_
 refine SW.seq_k fun K1 hK1 => ?_
 refine SW.block ?_
 refine SW.seq_k fun K2 hK2 => ?_
 refine SW.region _ _ _ _ ?_
 refine RL.p T ?_
 refine RL.p T ?_
 refine RL.p T ?_
 refine RL.nil _ _ _ _ ?_
 refine hK2 _ _ _ ?_
 refine SW.cs (fun hc0 => ?_) (fun hc0 => ?_)
 ·skip
  first
   | (exfalso; first | omega | contradiction | (simp at *; done))
   | (
    refine SW.seq_k fun K3 hK3 => ?_
    refine SW.region _ _ _ _ ?_
    refine RL.p T ?_
    refine RL.p T ?_
    refine RL.nil _ _ _ _ ?_
    refine hK3 _ _ _ ?_
    refine SW.ret ?_
    refine retQ.rr (H) ?_
    clear hK3 K3 hK2 K2 hK1 K1 hK0 K0
    exact ⟨rfl, rfl⟩
    )
 ·skip
  first
   | (exfalso; first | omega | contradiction | (simp at *; done))
   | (
    refine SW.seq_k fun K4 hK4 => ?_
    refine SW.region _ _ _ _ ?_
    refine RL.q (QV.vN T rfl rfl rfl rfl rfl (by exact (rfl : _ = [_, _, _, _, _, _, _, _, _, _, _]))) ?_
    refine RL.c fun12 (fun hs => fcheck x.f x.a x.n x.c hx.rd.cons hx.len hx.max hx.ok) ?_
    rintro _ _ ⟨rfl, e⟩; obtain rfl := e.symm
    refine RL.p T ?_
    refine RL.p T ?_
    refine RL.nil _ _ _ _ ?_
    refine hK4 _ _ _ ?_
    refine SW.cs (fun hc1 => ?_) (fun hc1 => ?_)
    ·skip
     first
      | (exfalso; first | omega | contradiction | (simp at *; done))
      | (
       refine SW.seq_k fun K5 hK5 => ?_
       refine SW.region _ _ _ _ ?_
       refine RL.p T ?_
       refine RL.p T ?_
       refine RL.nil _ _ _ _ ?_
       refine hK5 _ _ _ ?_
       refine SW.ret ?_
       refine retQ.rr (H) ?_
       clear hK5 K5 hK4 K4 hK2 K2 hK1 K1 hK0 K0
       exact ⟨rfl, rfl⟩
       )
    ·skip
     first
      | (exfalso; first | omega | contradiction | (simp at *; done))
      | (
       refine SW.seq_k fun K6 hK6 => ?_
       refine SW.drawQ [(14, 0), (15, 1), (16, 2), (17, 3), (18, 4), (19, 5), (20, 6), (21, 7), (22, 8), (13, 9)] [[], [0], [1, 0], [2, 1, 0], [], [4], [5, 4], [6, 5, 4], [3, 2, 1, 0, 7, 6, 5, 4], [8, 3, 2, 1, 0, 7, 6, 5, 4]] mixed (by kernel_rfl) (by kernel_rfl) ?_
       refine QL.p T ?_
       refine QL.p T ?_
       refine QL.p T ?_
       refine QL.q (QV.fld 2 T rfl) ?_
       refine QL.p T ?_
       refine QL.p T ?_
       refine QL.p T ?_
       refine QL.q (QV.fld 0 T rfl) ?_
       refine QL.p T ?_
       refine QL.p T ?_
       refine QL.nil ?_
       refine hK6 _ _ _ ?_
       refine SW.cs (fun hc2 => ?_) (fun hc2 => ?_)
       ·skip
        first
         | (exfalso; first | omega | contradiction | (simp at *; done))
         | (
          refine SW.seq_k fun K7 hK7 => ?_
          refine SW.region _ _ _ _ ?_
          refine RL.p T ?_
          refine RL.p T ?_
          refine RL.p T ?_
          refine RL.q (QV.fld 3 T rfl) ?_
          first | refine RL.ar ?_ | refine RL.p T ?_
          refine RL.p T ?_
          refine RL.p T ?_
          refine RL.s ?_
          refine NV.fstO T ?_
          refine RL.nil _ _ _ _ ?_
          refine hK7 _ _ _ ?_
          refine SW.seq_k fun K8 hK8 => ?_
          refine SW.region _ _ _ _ ?_
          refine RL.p T ?_
          refine RL.p T ?_
          refine RL.nil _ _ _ _ ?_
          refine hK8 _ _ _ ?_
          refine SW.ret ?_
          refine retQ.rr (H) ?_
          clear hK8 K8 hK7 K7 hK6 K6 hK4 K4 hK2 K2 hK1 K1 hK0 K0
          exact ⟨rfl, rfl⟩
          )
       ·skip
        exfalso; first | omega | contradiction | (simp at *; done)
       )
    )
theorem push_full {w0 : World} {H : List Chunk} (b : Nat) (R : Nat → Fs) (room first n over : Nat) (kk : Chunk → List Chunk) (hat : At H (.var b 57 (FifoC R room first n over)) kk) (x : Fs) (hx : FsOk w0 H x) (hc : chkF x.f = 0) (hn : room ≤ n) (ho : over < 4611686018427387904) : SC Try.prog w0 11 #[.pointer (some ⟨b, 0, none⟩), FsA x] H (fun v H' => v = .tuple #[.bool false, .int .i64 0] ∧ H' = kk (.var b 57 (FifoC R room first n ((over + 1 : Nat) : Int)))) := by
 refine SC.enter Try.func11 rfl (Nat.le_of_ble_eq_true rfl) ?_
 refine SW.seq_k fun K0 hK0 => ?_
 refine SW.region _ _ _ _ ?_
 refine RL.s ?_
 refine NV.box rfl (by exact (rfl : _ = [_, _, _, _, _, _, _, _, _, _, _])) ?_
 intro b3_0
 refine RL.p T ?_
 refine RL.p T ?_
 refine RL.nil _ _ _ _ ?_
 refine hK0 _ _ _ ?_
 refine SW.seq_k fun K1 hK1 => ?_
 refine SW.block ?_
 refine SW.seq_k fun K2 hK2 => ?_
 refine SW.region _ _ _ _ ?_
 refine RL.p T ?_
 refine RL.p T ?_
 refine RL.p T ?_
 refine RL.nil _ _ _ _ ?_
 refine hK2 _ _ _ ?_
 refine SW.cs (fun hc0 => ?_) (fun hc0 => ?_)
 ·skip
  first
   | (exfalso; first | omega | contradiction | (simp at *; done))
   | (
    refine SW.seq_k fun K3 hK3 => ?_
    refine SW.region _ _ _ _ ?_
    refine RL.p T ?_
    refine RL.p T ?_
    refine RL.nil _ _ _ _ ?_
    refine hK3 _ _ _ ?_
    refine SW.ret ?_
    refine retQ.rr ((kk (.var b 57 (FifoC R room first n ((over + 1 : Nat) : Int))))) ?_
    clear hK3 K3 hK2 K2 hK1 K1 hK0 K0
    exact ⟨rfl, rfl⟩
    )
 ·skip
  first
   | (exfalso; first | omega | contradiction | (simp at *; done))
   | (
    refine SW.seq_k fun K4 hK4 => ?_
    refine SW.region _ _ _ _ ?_
    refine RL.q (QV.vN T rfl rfl rfl rfl rfl (by exact (rfl : _ = [_, _, _, _, _, _, _, _, _, _, _]))) ?_
    refine RL.c fun12 (fun hs => fcheck x.f x.a x.n x.c hx.rd.cons hx.len hx.max hx.ok) ?_
    rintro _ _ ⟨rfl, e⟩; obtain rfl := e.symm
    refine RL.p T ?_
    refine RL.p T ?_
    refine RL.nil _ _ _ _ ?_
    refine hK4 _ _ _ ?_
    refine SW.cs (fun hc1 => ?_) (fun hc1 => ?_)
    ·skip
     first
      | (exfalso; first | omega | contradiction | (simp at *; done))
      | (
       refine SW.seq_k fun K5 hK5 => ?_
       refine SW.region _ _ _ _ ?_
       refine RL.p T ?_
       refine RL.p T ?_
       refine RL.nil _ _ _ _ ?_
       refine hK5 _ _ _ ?_
       refine SW.ret ?_
       refine retQ.rr ((kk (.var b 57 (FifoC R room first n ((over + 1 : Nat) : Int))))) ?_
       clear hK5 K5 hK4 K4 hK2 K2 hK1 K1 hK0 K0
       exact ⟨rfl, rfl⟩
       )
    ·skip
     first
      | (exfalso; first | omega | contradiction | (simp at *; done))
      | (
       refine SW.seq_k fun K6 hK6 => ?_
       refine SW.drawQ [(14, 0), (15, 1), (16, 2), (17, 3), (18, 4), (19, 5), (20, 6), (21, 7), (22, 8), (13, 9)] [[], [0], [1, 0], [2, 1, 0], [], [4], [5, 4], [6, 5, 4], [3, 2, 1, 0, 7, 6, 5, 4], [8, 3, 2, 1, 0, 7, 6, 5, 4]] mixed (by kernel_rfl) (by kernel_rfl) ?_
       refine QL.p T ?_
       refine QL.p T ?_
       refine QL.p T ?_
       refine QL.q (QV.fld 2 T rfl) ?_
       refine QL.p T ?_
       refine QL.p T ?_
       refine QL.p T ?_
       refine QL.q (QV.fld 0 T rfl) ?_
       refine QL.p T ?_
       refine QL.p T ?_
       refine QL.nil ?_
       refine hK6 _ _ _ ?_
       refine SW.cs (fun hc2 => ?_) (fun hc2 => ?_)
       ·skip
        first
         | (exfalso; first | omega | contradiction | (simp at *; done))
         | (
          refine SW.seq_k fun K7 hK7 => ?_
          refine SW.region _ _ _ _ ?_
          refine RL.p T ?_
          refine RL.p T ?_
          refine RL.p T ?_
          refine RL.q (QV.fld 3 T rfl) ?_
          first | refine RL.ar ?_ | refine RL.p T ?_
          refine RL.p T ?_
          refine RL.p T ?_
          refine RL.s ?_
          refine NV.fstO T ?_
          refine RL.nil _ _ _ _ ?_
          refine hK7 _ _ _ ?_
          refine SW.seq_k fun K8 hK8 => ?_
          refine SW.region _ _ _ _ ?_
          refine RL.p T ?_
          refine RL.p T ?_
          refine RL.nil _ _ _ _ ?_
          refine hK8 _ _ _ ?_
          refine SW.ret ?_
          refine retQ.rr ((kk (.var b 57 (FifoC R room first n ((over + 1 : Nat) : Int))))) ?_
          clear hK8 K8 hK7 K7 hK6 K6 hK4 K4 hK2 K2 hK1 K1 hK0 K0
          exact ⟨rfl, rfl⟩
          )
       ·skip
        exfalso; first | omega | contradiction | (simp at *; done)
       )
    )
theorem push_ok {w0 : World} {H : List Chunk} (b : Nat) (R : Nat → Fs) (room first n over : Nat) (kk : Chunk → List Chunk) (hat : At H (.var b 57 (FifoC R room first n over)) kk) (x : Fs) (hx : FsOk w0 H x) (hf : first < 64) (hr : room ≤ 64) (hc : chkF x.f = 0) (hn : n < room) : SC Try.prog w0 11 #[.pointer (some ⟨b, 0, none⟩), FsA x] H (fun v H' => ∃ a1 c1, v = .tuple #[.bool true, .int .i64 0] ∧ H' = .row a1 x.f.data.length c1 5 1 (x.f.data.map (.int .u8)) :: kk (.var b 57 (FifoC (updR R ((first + n) % 64) ⟨x.f, a1, x.f.data.length, c1⟩) room first ((n + 1 : Nat) : Int) over))) := by
 refine SC.enter Try.func11 rfl (Nat.le_of_ble_eq_true rfl) ?_
 refine SW.seq_k fun K0 hK0 => ?_
 refine SW.region _ _ _ _ ?_
 refine RL.s ?_
 refine NV.box rfl (by exact (rfl : _ = [_, _, _, _, _, _, _, _, _, _, _])) ?_
 intro b3_0
 refine RL.p T ?_
 refine RL.p T ?_
 refine RL.nil _ _ _ _ ?_
 refine hK0 _ _ _ ?_
 refine SW.seq_k fun K1 hK1 => ?_
 refine SW.block ?_
 refine SW.seq_k fun K2 hK2 => ?_
 refine SW.region _ _ _ _ ?_
 refine RL.p T ?_
 refine RL.p T ?_
 refine RL.p T ?_
 refine RL.nil _ _ _ _ ?_
 refine hK2 _ _ _ ?_
 refine SW.cs (fun hc0 => ?_) (fun hc0 => ?_)
 ·skip
  first
   | (exfalso; first | omega | contradiction | (simp at *; done))
   | (
    refine SW.seq_k fun K3 hK3 => ?_
    refine SW.region _ _ _ _ ?_
    refine RL.p T ?_
    refine RL.p T ?_
    refine RL.nil _ _ _ _ ?_
    refine hK3 _ _ _ ?_
    refine SW.ret ?_
    refine retQ.rr ((.row a1 x.f.data.length c1 5 1 (x.f.data.map (.int .u8)) :: kk (.var b 57 (FifoC (updR R ((first + n) % 64) ⟨x.f, a1, x.f.data.length, c1⟩) room first ((n + 1 : Nat) : Int) over)))) ?_
    clear hK3 K3 hK2 K2 hK1 K1 hK0 K0
    exact ⟨a1, c1, rfl, rfl⟩
    )
 ·skip
  first
   | (exfalso; first | omega | contradiction | (simp at *; done))
   | (
    refine SW.seq_k fun K4 hK4 => ?_
    refine SW.region _ _ _ _ ?_
    refine RL.q (QV.vN T rfl rfl rfl rfl rfl (by exact (rfl : _ = [_, _, _, _, _, _, _, _, _, _, _]))) ?_
    refine RL.c fun12 (fun hs => fcheck x.f x.a x.n x.c hx.rd.cons hx.len hx.max hx.ok) ?_
    rintro _ _ ⟨rfl, e⟩; obtain rfl := e.symm
    refine RL.p T ?_
    refine RL.p T ?_
    refine RL.nil _ _ _ _ ?_
    refine hK4 _ _ _ ?_
    refine SW.cs (fun hc1 => ?_) (fun hc1 => ?_)
    ·skip
     first
      | (exfalso; first | omega | contradiction | (simp at *; done))
      | (
       refine SW.seq_k fun K5 hK5 => ?_
       refine SW.region _ _ _ _ ?_
       refine RL.p T ?_
       refine RL.p T ?_
       refine RL.nil _ _ _ _ ?_
       refine hK5 _ _ _ ?_
       refine SW.ret ?_
       refine retQ.rr ((.row a1 x.f.data.length c1 5 1 (x.f.data.map (.int .u8)) :: kk (.var b 57 (FifoC (updR R ((first + n) % 64) ⟨x.f, a1, x.f.data.length, c1⟩) room first ((n + 1 : Nat) : Int) over)))) ?_
       clear hK5 K5 hK4 K4 hK2 K2 hK1 K1 hK0 K0
       exact ⟨a1, c1, rfl, rfl⟩
       )
    ·skip
     first
      | (exfalso; first | omega | contradiction | (simp at *; done))
      | (
       refine SW.seq_k fun K6 hK6 => ?_
       refine SW.drawQ [(14, 0), (15, 1), (16, 2), (17, 3), (18, 4), (19, 5), (20, 6), (21, 7), (22, 8), (13, 9)] [[], [0], [1, 0], [2, 1, 0], [], [4], [5, 4], [6, 5, 4], [3, 2, 1, 0, 7, 6, 5, 4], [8, 3, 2, 1, 0, 7, 6, 5, 4]] mixed (by kernel_rfl) (by kernel_rfl) ?_
       refine QL.p T ?_
       refine QL.p T ?_
       refine QL.p T ?_
       refine QL.q (QV.fld 2 T rfl) ?_
       refine QL.p T ?_
       refine QL.p T ?_
       refine QL.p T ?_
       refine QL.q (QV.fld 0 T rfl) ?_
       refine QL.p T ?_
       refine QL.p T ?_
       refine QL.nil ?_
       refine hK6 _ _ _ ?_
       refine SW.cs (fun hc2 => ?_) (fun hc2 => ?_)
       ·skip
        first
         | (exfalso; first | omega | contradiction | (simp at *; done))
         | (
          refine SW.seq_k fun K7 hK7 => ?_
          refine SW.region _ _ _ _ ?_
          refine RL.p T ?_
          refine RL.p T ?_
          refine RL.p T ?_
          refine RL.q (QV.fld 3 T rfl) ?_
          first | refine RL.ar ?_ | refine RL.p T ?_
          refine RL.p T ?_
          refine RL.p T ?_
          refine RL.s ?_
          refine NV.fstO T ?_
          refine RL.nil _ _ _ _ ?_
          refine hK7 _ _ _ ?_
          refine SW.seq_k fun K8 hK8 => ?_
          refine SW.region _ _ _ _ ?_
          refine RL.p T ?_
          refine RL.p T ?_
          refine RL.nil _ _ _ _ ?_
          refine hK8 _ _ _ ?_
          refine SW.ret ?_
          refine retQ.rr ((.row a1 x.f.data.length c1 5 1 (x.f.data.map (.int .u8)) :: kk (.var b 57 (FifoC (updR R ((first + n) % 64) ⟨x.f, a1, x.f.data.length, c1⟩) room first ((n + 1 : Nat) : Int) over)))) ?_
          clear hK8 K8 hK7 K7 hK6 K6 hK4 K4 hK2 K2 hK1 K1 hK0 K0
          exact ⟨a1, c1, rfl, rfl⟩
          )
       ·skip
        first
         | (exfalso; first | omega | contradiction | (simp at *; done))
         | (
          refine SW.skip ?_
          refine hK1 _ _ _ ?_
          refine SW.seq_k fun K9 hK9 => ?_
          refine SW.draw [(30, 0), (31, 1), (32, 2), (33, 3), (34, 4), (35, 5), (36, 6), (37, 7), (38, 8)] [[], [], [1], [2, 1], [3, 2, 1], [0, 4, 3, 2, 1], [], [6, 5, 0, 4, 3, 2, 1], [5, 0, 4, 3, 2, 1, 6, 7], [8, 5, 0, 4, 3, 2, 1, 6, 7]] mixed (by kernel_rfl) (by kernel_rfl) ?_
          refine RD.p T ?_
          refine RD.p T ?_
          refine RD.p T ?_
          refine RD.p T ?_
          refine RD.q rfl rfl (Gd.none rfl) (QV.fld 2 T rfl) ?_
          refine RD.q rfl rfl (Gd.none rfl) (QV.vN T rfl rfl rfl rfl rfl (by exact (rfl : _ = [_, _, _, _, _, _, _, _, _, _, _]))) ?_
          refine RD.nv rfl rfl rfl (Gd.none rfl) ?_
          refine NV.sat (fun hs => ?_) (fun c hc => by cases hc)
          refine NV.call rfl rfl rfl fun25 rfl rfl (fat b R room first n over _ (by repeat first | exact At.head _ _ | assumption | apply At.tail) n hf (by omega)) ?_
          rintro _ _ ⟨rfl, e⟩; obtain rfl := e.symm
          refine ⟨(Stab.cons rfl (Gd.none rfl) (QV.vN T rfl rfl rfl rfl rfl rfl) Stab.nil), ?_⟩
          refine RD.nv rfl rfl rfl (Gd.none rfl) ?_
          refine NV.sat (fun hs => ?_) (fun c hc => by cases hc)
          refine NV.call rfl rfl rfl fun24 rfl rfl (fcopy x.f x.a x.n x.c (by repeat first | exact hx.rd | apply Rd.cons | apply Rd.app) hx.len hx.max hx.ok) ?_
          rintro _ _ ⟨a1, c1, rfl, e⟩; obtain rfl := e.symm
          refine ⟨Stab.nil, ?_⟩
          refine RD.p T ?_
          refine RD.nv rfl rfl rfl (Gd.none rfl) ?_
          refine NV.rgS (q := ⟨x.f, a1, x.f.data.length, c1⟩) T (Nat.mod_lt _ (by omega)) rfl ?_
          refine ⟨Stab.nil, ?_⟩
          refine RD.k rfl rfl ?_
          refine hK9 _ _ _ ?_
          refine SW.seq_k fun K10 hK10 => ?_
          refine SW.region _ _ _ _ ?_
          refine RL.p T ?_
          refine RL.p T ?_
          refine RL.p T ?_
          refine RL.q (QV.fld 2 T rfl) ?_
          first | refine RL.ar ?_ | refine RL.p T ?_
          refine RL.p T ?_
          refine RL.p T ?_
          refine RL.s ?_
          refine NV.fstN T ?_
          refine RL.nil _ _ _ _ ?_
          refine hK10 _ _ _ ?_
          refine SW.seq_k fun K11 hK11 => ?_
          refine SW.region _ _ _ _ ?_
          refine RL.p T ?_
          refine RL.p T ?_
          refine RL.nil _ _ _ _ ?_
          refine hK11 _ _ _ ?_
          refine SW.ret ?_
          refine retQ.rr ((.row a1 x.f.data.length c1 5 1 (x.f.data.map (.int .u8)) :: kk (.var b 57 (FifoC (updR R ((first + n) % 64) ⟨x.f, a1, x.f.data.length, c1⟩) room first ((n + 1 : Nat) : Int) over)))) ?_
          clear hK11 K11 hK10 K10 hK9 K9 hK6 K6 hK4 K4 hK2 K2 hK1 K1 hK0 K0
          exact ⟨a1, c1, rfl, rfl⟩
          )
       )
    )
theorem pop_nil {w0 : World} {H : List Chunk}  : SC Try.prog w0 15 #[(.pointer none)] H (fun v H' => v = .tuple #[FA (zeroF 0) none 0 0, .int .i64 1] ∧ H' = H) := by
 refine SC.enter Try.func15 rfl (Nat.le_of_ble_eq_true rfl) ?_
 refine SW.seq_k fun K0 hK0 => ?_
 refine SW.region _ _ _ _ ?_
 refine RL.s ?_
 refine NV.alloc T rfl rfl rfl (by exact (rfl : _ = [_, _, _, _, _, _, _, _, _, _, _])) ?_
 intro b2_0
 refine RL.p T ?_
 refine RL.nil _ _ _ _ ?_
 refine hK0 _ _ _ ?_
 refine SW.seq_k fun K1 hK1 => ?_
 refine SW.block ?_
 refine SW.seq_k fun K2 hK2 => ?_
 refine SW.region _ _ _ _ ?_
 refine RL.p T ?_
 refine RL.p T ?_
 refine RL.p T ?_
 refine RL.nil _ _ _ _ ?_
 refine hK2 _ _ _ ?_
 refine SW.cs (fun hc0 => ?_) (fun hc0 => ?_)
 ·skip
  first
   | (exfalso; first | omega | contradiction | (simp at *; done))
   | (
    refine SW.seq_k fun K3 hK3 => ?_
    refine SW.region _ _ _ _ ?_
    refine RL.s ?_
    first | refine NV.buildc T rfl (rfl : _ = some [_, _, _, _, _, _, _, _, _, _, _]) ?_ | refine NV.buildz T rfl (rfl : _ = some [_, _, _, _, _, _, _, _, _, _, _]) ?_ | refine NV.pure T (rfl : _ = some (Value.agg #[_, _, _, _, _, _, _, _, _, _, _])) ?_
    refine RL.s ?_
    refine NV.sN T rfl rfl rfl (by exact (rfl : _ = [_, _, _, _, _, _, _, _, _, _, _])) (by exact (rfl : _ = [_, _, _, _, _, _, _, _, _, _, _])) ?_
    refine RL.p T ?_
    refine RL.nil _ _ _ _ ?_
    refine hK3 _ _ _ ?_
    refine SW.ret ?_
    refine retQ.ra (H) (RVs.cN T rfl rfl rfl rfl (by exact (rfl : _ = [_, _, _, _, _, _, _, _, _, _, _])) (RVs.t RVs.nil)) ?_
    clear hK3 K3 hK2 K2 hK1 K1 hK0 K0
    exact ⟨rfl, rfl⟩
    )
 ·skip
  first
   | (exfalso; first | omega | contradiction | (simp at *; done))
   | (
    refine SW.seq_k fun K4 hK4 => ?_
    refine SW.region _ _ _ _ ?_
    refine RL.p T ?_
    refine RL.p T ?_
    refine RL.p T ?_
    refine RL.q (QV.fld 2 T rfl) ?_
    refine RL.p T ?_
    refine RL.p T ?_
    refine RL.nil _ _ _ _ ?_
    refine hK4 _ _ _ ?_
    refine SW.cs (fun hc1 => ?_) (fun hc1 => ?_)
    ·skip
     first
      | (exfalso; first | omega | contradiction | (simp at *; done))
      | (
       refine SW.seq_k fun K5 hK5 => ?_
       refine SW.region _ _ _ _ ?_
       refine RL.s ?_
       first | refine NV.buildc T rfl (rfl : _ = some [_, _, _, _, _, _, _, _, _, _, _]) ?_ | refine NV.buildz T rfl (rfl : _ = some [_, _, _, _, _, _, _, _, _, _, _]) ?_ | refine NV.pure T (rfl : _ = some (Value.agg #[_, _, _, _, _, _, _, _, _, _, _])) ?_
       refine RL.s ?_
       refine NV.sN T rfl rfl rfl (by exact (rfl : _ = [_, _, _, _, _, _, _, _, _, _, _])) (by exact (rfl : _ = [_, _, _, _, _, _, _, _, _, _, _])) ?_
       refine RL.p T ?_
       refine RL.nil _ _ _ _ ?_
       refine hK5 _ _ _ ?_
       refine SW.ret ?_
       refine retQ.ra (H) (RVs.cN T rfl rfl rfl rfl (by exact (rfl : _ = [_, _, _, _, _, _, _, _, _, _, _])) (RVs.t RVs.nil)) ?_
       clear hK5 K5 hK4 K4 hK2 K2 hK1 K1 hK0 K0
       exact ⟨rfl, rfl⟩
       )
    ·skip
     exfalso; first | omega | contradiction | (simp at *; done)
    )
theorem pop_none {w0 : World} {H : List Chunk} (b : Nat) (R : Nat → Fs) (room first n over : Nat) (kk : Chunk → List Chunk) (hat : At H (.var b 57 (FifoC R room first n over)) kk) (h0 : n = 0) : SC Try.prog w0 15 #[.pointer (some ⟨b, 0, none⟩)] H (fun v H' => v = .tuple #[FA (zeroF 0) none 0 0, .int .i64 9] ∧ H' = H) := by
 refine SC.enter Try.func15 rfl (Nat.le_of_ble_eq_true rfl) ?_
 refine SW.seq_k fun K0 hK0 => ?_
 refine SW.region _ _ _ _ ?_
 refine RL.s ?_
 refine NV.alloc T rfl rfl rfl (by exact (rfl : _ = [_, _, _, _, _, _, _, _, _, _, _])) ?_
 intro b2_0
 refine RL.p T ?_
 refine RL.nil _ _ _ _ ?_
 refine hK0 _ _ _ ?_
 refine SW.seq_k fun K1 hK1 => ?_
 refine SW.block ?_
 refine SW.seq_k fun K2 hK2 => ?_
 refine SW.region _ _ _ _ ?_
 refine RL.p T ?_
 refine RL.p T ?_
 refine RL.p T ?_
 refine RL.nil _ _ _ _ ?_
 refine hK2 _ _ _ ?_
 refine SW.cs (fun hc0 => ?_) (fun hc0 => ?_)
 ·skip
  first
   | (exfalso; first | omega | contradiction | (simp at *; done))
   | (
    refine SW.seq_k fun K3 hK3 => ?_
    refine SW.region _ _ _ _ ?_
    refine RL.s ?_
    first | refine NV.buildc T rfl (rfl : _ = some [_, _, _, _, _, _, _, _, _, _, _]) ?_ | refine NV.buildz T rfl (rfl : _ = some [_, _, _, _, _, _, _, _, _, _, _]) ?_ | refine NV.pure T (rfl : _ = some (Value.agg #[_, _, _, _, _, _, _, _, _, _, _])) ?_
    refine RL.s ?_
    refine NV.sN T rfl rfl rfl (by exact (rfl : _ = [_, _, _, _, _, _, _, _, _, _, _])) (by exact (rfl : _ = [_, _, _, _, _, _, _, _, _, _, _])) ?_
    refine RL.p T ?_
    refine RL.nil _ _ _ _ ?_
    refine hK3 _ _ _ ?_
    refine SW.ret ?_
    refine retQ.ra (H) (RVs.cN T rfl rfl rfl rfl (by exact (rfl : _ = [_, _, _, _, _, _, _, _, _, _, _])) (RVs.t RVs.nil)) ?_
    clear hK3 K3 hK2 K2 hK1 K1 hK0 K0
    exact ⟨rfl, rfl⟩
    )
 ·skip
  first
   | (exfalso; first | omega | contradiction | (simp at *; done))
   | (
    refine SW.seq_k fun K4 hK4 => ?_
    refine SW.region _ _ _ _ ?_
    refine RL.p T ?_
    refine RL.p T ?_
    refine RL.p T ?_
    refine RL.q (QV.fld 2 T rfl) ?_
    refine RL.p T ?_
    refine RL.p T ?_
    refine RL.nil _ _ _ _ ?_
    refine hK4 _ _ _ ?_
    refine SW.cs (fun hc1 => ?_) (fun hc1 => ?_)
    ·skip
     first
      | (exfalso; first | omega | contradiction | (simp at *; done))
      | (
       refine SW.seq_k fun K5 hK5 => ?_
       refine SW.region _ _ _ _ ?_
       refine RL.s ?_
       first | refine NV.buildc T rfl (rfl : _ = some [_, _, _, _, _, _, _, _, _, _, _]) ?_ | refine NV.buildz T rfl (rfl : _ = some [_, _, _, _, _, _, _, _, _, _, _]) ?_ | refine NV.pure T (rfl : _ = some (Value.agg #[_, _, _, _, _, _, _, _, _, _, _])) ?_
       refine RL.s ?_
       refine NV.sN T rfl rfl rfl (by exact (rfl : _ = [_, _, _, _, _, _, _, _, _, _, _])) (by exact (rfl : _ = [_, _, _, _, _, _, _, _, _, _, _])) ?_
       refine RL.p T ?_
       refine RL.nil _ _ _ _ ?_
       refine hK5 _ _ _ ?_
       refine SW.ret ?_
       refine retQ.ra (H) (RVs.cN T rfl rfl rfl rfl (by exact (rfl : _ = [_, _, _, _, _, _, _, _, _, _, _])) (RVs.t RVs.nil)) ?_
       clear hK5 K5 hK4 K4 hK2 K2 hK1 K1 hK0 K0
       exact ⟨rfl, rfl⟩
       )
    ·skip
     exfalso; first | omega | contradiction | (simp at *; done)
    )
theorem pop_ok {w0 : World} {H : List Chunk} (b : Nat) (R : Nat → Fs) (room first n over : Nat) (kk : Chunk → List Chunk) (hat : At H (.var b 57 (FifoC R room first n over)) kk) (hf : first < 64) (hn : 0 < n) (hn2 : n ≤ 64) : SC Try.prog w0 15 #[.pointer (some ⟨b, 0, none⟩)] H (fun v H' => v = .tuple #[FsA (R (first % 64)), .int .i64 0] ∧ H' = kk (.var b 57 (FifoC (updR R (first % 64) default) room ((first + 1) % 64 : Nat) ((n - 1 : Nat) : Int) over))) := by
 refine SC.enter Try.func15 rfl (Nat.le_of_ble_eq_true rfl) ?_
 refine SW.seq_k fun K0 hK0 => ?_
 refine SW.region _ _ _ _ ?_
 refine RL.s ?_
 refine NV.alloc T rfl rfl rfl (by exact (rfl : _ = [_, _, _, _, _, _, _, _, _, _, _])) ?_
 intro b2_0
 refine RL.p T ?_
 refine RL.nil _ _ _ _ ?_
 refine hK0 _ _ _ ?_
 refine SW.seq_k fun K1 hK1 => ?_
 refine SW.block ?_
 refine SW.seq_k fun K2 hK2 => ?_
 refine SW.region _ _ _ _ ?_
 refine RL.p T ?_
 refine RL.p T ?_
 refine RL.p T ?_
 refine RL.nil _ _ _ _ ?_
 refine hK2 _ _ _ ?_
 refine SW.cs (fun hc0 => ?_) (fun hc0 => ?_)
 ·skip
  first
   | (exfalso; first | omega | contradiction | (simp at *; done))
   | (
    refine SW.seq_k fun K3 hK3 => ?_
    refine SW.region _ _ _ _ ?_
    refine RL.s ?_
    first | refine NV.buildc T rfl (rfl : _ = some [_, _, _, _, _, _, _, _, _, _, _]) ?_ | refine NV.buildz T rfl (rfl : _ = some [_, _, _, _, _, _, _, _, _, _, _]) ?_ | refine NV.pure T (rfl : _ = some (Value.agg #[_, _, _, _, _, _, _, _, _, _, _])) ?_
    refine RL.s ?_
    refine NV.sN T rfl rfl rfl (by exact (rfl : _ = [_, _, _, _, _, _, _, _, _, _, _])) (by exact (rfl : _ = [_, _, _, _, _, _, _, _, _, _, _])) ?_
    refine RL.p T ?_
    refine RL.nil _ _ _ _ ?_
    refine hK3 _ _ _ ?_
    refine SW.ret ?_
    refine retQ.ra ((kk (.var b 57 (FifoC (updR R (first % 64) default) room ((first + 1) % 64 : Nat) ((n - 1 : Nat) : Int) over)))) (RVs.cN T rfl rfl rfl rfl (by exact (rfl : _ = [_, _, _, _, _, _, _, _, _, _, _])) (RVs.t RVs.nil)) ?_
    clear hK3 K3 hK2 K2 hK1 K1 hK0 K0
    exact ⟨rfl, rfl⟩
    )
 ·skip
  first
   | (exfalso; first | omega | contradiction | (simp at *; done))
   | (
    refine SW.seq_k fun K4 hK4 => ?_
    refine SW.region _ _ _ _ ?_
    refine RL.p T ?_
    refine RL.p T ?_
    refine RL.p T ?_
    refine RL.q (QV.fld 2 T rfl) ?_
    refine RL.p T ?_
    refine RL.p T ?_
    refine RL.nil _ _ _ _ ?_
    refine hK4 _ _ _ ?_
    refine SW.cs (fun hc1 => ?_) (fun hc1 => ?_)
    ·skip
     first
      | (exfalso; first | omega | contradiction | (simp at *; done))
      | (
       refine SW.seq_k fun K5 hK5 => ?_
       refine SW.region _ _ _ _ ?_
       refine RL.s ?_
       first | refine NV.buildc T rfl (rfl : _ = some [_, _, _, _, _, _, _, _, _, _, _]) ?_ | refine NV.buildz T rfl (rfl : _ = some [_, _, _, _, _, _, _, _, _, _, _]) ?_ | refine NV.pure T (rfl : _ = some (Value.agg #[_, _, _, _, _, _, _, _, _, _, _])) ?_
       refine RL.s ?_
       refine NV.sN T rfl rfl rfl (by exact (rfl : _ = [_, _, _, _, _, _, _, _, _, _, _])) (by exact (rfl : _ = [_, _, _, _, _, _, _, _, _, _, _])) ?_
       refine RL.p T ?_
       refine RL.nil _ _ _ _ ?_
       refine hK5 _ _ _ ?_
       refine SW.ret ?_
       refine retQ.ra ((kk (.var b 57 (FifoC (updR R (first % 64) default) room ((first + 1) % 64 : Nat) ((n - 1 : Nat) : Int) over)))) (RVs.cN T rfl rfl rfl rfl (by exact (rfl : _ = [_, _, _, _, _, _, _, _, _, _, _])) (RVs.t RVs.nil)) ?_
       clear hK5 K5 hK4 K4 hK2 K2 hK1 K1 hK0 K0
       exact ⟨rfl, rfl⟩
       )
    ·skip
     first
      | (exfalso; first | omega | contradiction | (simp at *; done))
      | (
       refine SW.skip ?_
       refine hK1 _ _ _ ?_
       refine SW.seq_k fun K6 hK6 => ?_
       refine SW.region _ _ _ _ ?_
       refine RL.p T ?_
       refine RL.c fun25 (fun hs => fat b R room first n over _ (by repeat first | exact At.head _ _ | assumption | apply At.tail) 0 hf (by omega)) ?_
       rintro _ _ ⟨rfl, e⟩; obtain rfl := e.symm
       refine RL.p T ?_
       refine RL.q (QV.rg T (Nat.mod_lt _ (by omega))) ?_
       refine RL.s ?_
       refine NV.alloc T rfl rfl rfl (by exact (rfl : _ = [_, _, _, _, _, _, _, _, _, _, _])) ?_
       intro b4_1
       refine RL.s ?_
       refine NV.sN T rfl rfl rfl (by exact (rfl : _ = [_, _, _, _, _, _, _, _, _, _, _])) (by exact (rfl : _ = [_, _, _, _, _, _, _, _, _, _, _])) ?_
       refine RL.nil _ _ _ _ ?_
       refine hK6 _ _ _ ?_
       refine SW.seq_k fun K7 hK7 => ?_
       refine SW.region _ _ _ _ ?_
       refine RL.p T ?_
       refine RL.c fun25 (fun hs => fat b R room first n over _ (by repeat first | exact At.head _ _ | assumption | apply At.tail) 0 hf (by omega)) ?_
       rintro _ _ ⟨rfl, e⟩; obtain rfl := e.symm
       refine RL.s ?_
       first | refine NV.buildc T rfl (rfl : _ = some [_, _, _, _, _, _, _, _, _, _, _]) ?_ | refine NV.buildz T rfl (rfl : _ = some [_, _, _, _, _, _, _, _, _, _, _]) ?_ | refine NV.pure T (rfl : _ = some (Value.agg #[_, _, _, _, _, _, _, _, _, _, _])) ?_
       refine RL.p T ?_
       refine RL.s ?_
       refine NV.rgS (q := default) T (Nat.mod_lt _ (by omega)) rfl ?_
       refine RL.nil _ _ _ _ ?_
       refine hK7 _ _ _ ?_
       refine SW.seq_k fun K8 hK8 => ?_
       refine SW.region _ _ _ _ ?_
       refine RL.p T ?_
       refine RL.p T ?_
       refine RL.p T ?_
       refine RL.p T ?_
       refine RL.q (QV.fld 1 T rfl) ?_
       first | refine RL.ar ?_ | refine RL.p T ?_
       refine RL.q (QV.as (QV.remP (b := 64) rfl rfl rfl (by omega) (by omega)) (show Value.int .i64 (((first : Int) + 1) % 64) = .int .i64 (((first + 1) % 64 : Nat) : Int) from by rw [Int.natCast_emod]; rfl)) ?_
       refine RL.p T ?_
       refine RL.p T ?_
       refine RL.s ?_
       refine NV.fstF T ?_
       refine RL.nil _ _ _ _ ?_
       refine hK8 _ _ _ ?_
       refine SW.seq_k fun K9 hK9 => ?_
       refine SW.region _ _ _ _ ?_
       refine RL.p T ?_
       refine RL.p T ?_
       refine RL.p T ?_
       refine RL.q (QV.fld 2 T rfl) ?_
       first | refine RL.ar ?_ | refine RL.p T ?_
       rw [show ((n : Nat) : Int) - 1 = ((n - 1 : Nat) : Int) by omega]
       refine RL.p T ?_
       refine RL.p T ?_
       refine RL.s ?_
       refine NV.fstN T ?_
       refine RL.nil _ _ _ _ ?_
       refine hK9 _ _ _ ?_
       refine SW.seq_k fun K10 hK10 => ?_
       refine SW.region _ _ _ _ ?_
       refine RL.q (QV.vN T rfl rfl rfl rfl rfl (by exact (rfl : _ = [_, _, _, _, _, _, _, _, _, _, _]))) ?_
       refine RL.s ?_
       refine NV.sN T rfl rfl rfl (by exact (rfl : _ = [_, _, _, _, _, _, _, _, _, _, _])) (by exact (rfl : _ = [_, _, _, _, _, _, _, _, _, _, _])) ?_
       refine RL.p T ?_
       refine RL.nil _ _ _ _ ?_
       refine hK10 _ _ _ ?_
       refine SW.ret ?_
       refine retQ.ra ((kk (.var b 57 (FifoC (updR R (first % 64) default) room ((first + 1) % 64 : Nat) ((n - 1 : Nat) : Int) over)))) (RVs.cN T rfl rfl rfl rfl (by exact (rfl : _ = [_, _, _, _, _, _, _, _, _, _, _])) (RVs.t RVs.nil)) ?_
       clear hK10 K10 hK9 K9 hK8 K8 hK7 K7 hK6 K6 hK4 K4 hK2 K2 hK1 K1 hK0 K0
       exact ⟨rfl, rfl⟩
       )
    )
end Go.Proofs.Ytojghialjpianaa.M
