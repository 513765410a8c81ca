import Derived.Test.YtjemdjjmpgjieaaProg
import Derived.Test.YtjemdjjmpgjieaaFB14
import Derived.Test.YtjemdjjmpgjieaaS36
import Derived.Test.YtjemdjjmpgjieaaP14f
set_option linter.unusedVariables false
set_option linter.unusedSimpArgs false
namespace Go.Proofs.Ytjemdjjmpgjieaa.M
open Go Go.Sep Go.Proofs
set_option maxRecDepth 10000
set_option maxHeartbeats 2000000
theorem chk_id {f : Frm} (h : chkF f = 0) : (f.ext = true → f.id < 536870912) ∧ (f.ext = false → f.id < 2048) := by
  have ho : okF f = true := by
    unfold chkF at h
    split at h
    · assumption
    · omega
  unfold okF at ho
  simp only [Bool.and_eq_true, decide_eq_true_eq] at ho
  have := ho.1.1.2
  constructor
  · intro he; rw [he] at this; simpa using this
  · intro he; rw [he] at this; simpa using this
theorem key_bad {w0 : World} {H : List Chunk} (f : Frm) (sa : Option Addr) (n c : Nat) (hR : Rd w0 H sa n c 1 (f.data.map (.int .u8))) (hn : n = f.data.length) (hm : n ≤ 140737488351232) (hf : FrOk f) (hc : chkF f ≠ 0) : SC Try.prog w0 31 #[FA f sa n c] H (fun v H' => v = .tuple #[.int .u64 0, .int .i64 2] ∧ H' = H) := by
 refine SC.enter Try.func31 rfl (Nat.le_of_ble_eq_true rfl) ?_
 refine SW.seq_k fun K0 hK0 => ?_
 refine SW.region _ _ _ _ ?_
 refine RL.s ?_
 refine NV.box rfl (by exact (rfl : _ = [_, _, _, _, _, _, _, _, _, _, _])) ?_
 intro b1_0
 refine RL.p T ?_
 refine RL.p T ?_
 refine RL.nil _ _ _ _ ?_
 refine hK0 _ _ _ ?_
 refine SW.seq_k fun K1 hK1 => ?_
 refine SW.seq_k fun K2 hK2 => ?_
 refine SW.region _ _ _ _ ?_
 refine RL.q (QV.vN T rfl rfl rfl rfl rfl (by exact (rfl : _ = [_, _, _, _, _, _, _, _, _, _, _]))) ?_
 refine RL.c fun12 (fun hs => fcheck f sa n c (by repeat first | exact hR | apply Rd.cons | apply Rd.app) hn hm hf) ?_
 rintro _ _ ⟨rfl, e⟩; obtain rfl := e.symm
 refine RL.p T ?_
 refine RL.nil _ _ _ _ ?_
 refine hK2 _ _ _ ?_
 refine SW.cs (fun hc0 => ?_) (fun hc0 => ?_)
 ·skip
  first
   | (exfalso; first | omega | contradiction | (clear hK2 K2; clear hK1 K1; clear hK0 K0; simp at *; done))
   | (
    refine SW.seq_k fun K3 hK3 => ?_
    refine SW.region _ _ _ _ ?_
    refine RL.p T ?_
    refine RL.p T ?_
    refine RL.nil _ _ _ _ ?_
    refine hK3 _ _ _ ?_
    refine SW.ret ?_
    refine retQ.rr (H) ?_
    clear hK3 K3 hK2 K2 hK1 K1 hK0 K0
    exact ⟨rfl, rfl⟩
    )
 ·skip
  first
   | (exfalso; first | omega | contradiction | (clear hK2 K2; clear hK1 K1; clear hK0 K0; simp at *; done))
   | (
    refine SW.skip ?_
    refine hK1 _ _ _ ?_
    refine SW.seq_k fun K4 hK4 => ?_
    refine SW.seq_k fun K5 hK5 => ?_
    refine SW.region _ _ _ _ ?_
    refine RL.p T ?_
    refine RL.lv1 T ?_
    refine RL.nil _ _ _ _ ?_
    refine hK5 _ _ _ ?_
    refine SW.cs (fun hc1 => ?_) (fun hc1 => ?_)
    ·skip
     exfalso; first | omega | contradiction | (clear hK5 K5; clear hK4 K4; clear hK2 K2; clear hK1 K1; clear hK0 K0; simp at *; done)
    ·skip
     exfalso; first | omega | contradiction | (clear hK5 K5; clear hK4 K4; clear hK2 K2; clear hK1 K1; clear hK0 K0; simp at *; done)
    )
theorem key_e {w0 : World} {H : List Chunk} (f : Frm) (sa : Option Addr) (n c : Nat) (hR : Rd w0 H sa n c 1 (f.data.map (.int .u8))) (hn : n = f.data.length) (hm : n ≤ 140737488351232) (hf : FrOk f) (hc : chkF f = 0) (he : f.ext = true) : SC Try.prog w0 31 #[FA f sa n c] H (fun v H' => v = .tuple #[.int .u64 (keyF f), .int .i64 0] ∧ H' = H) := by
 refine SC.enter Try.func31 rfl (Nat.le_of_ble_eq_true rfl) ?_
 refine SW.seq_k fun K0 hK0 => ?_
 have hid := (chk_id hc).1 he
 have hi0 := hf.id
 have hb2 : 0 ≤ (if f.rtr = true then ((2 ^ 2 : Nat) : Int) else 0) ∧ (if f.rtr = true then ((2 ^ 2 : Nat) : Int) else 0) ≤ 4 := by split <;> decide
 refine SW.region _ _ _ _ ?_
 refine RL.s ?_
 refine NV.box rfl (by exact (rfl : _ = [_, _, _, _, _, _, _, _, _, _, _])) ?_
 intro b1_0
 refine RL.p T ?_
 refine RL.p T ?_
 refine RL.nil _ _ _ _ ?_
 refine hK0 _ _ _ ?_
 refine SW.seq_k fun K1 hK1 => ?_
 refine SW.seq_k fun K2 hK2 => ?_
 refine SW.region _ _ _ _ ?_
 refine RL.q (QV.vN T rfl rfl rfl rfl rfl (by exact (rfl : _ = [_, _, _, _, _, _, _, _, _, _, _]))) ?_
 refine RL.c fun12 (fun hs => fcheck f sa n c (by repeat first | exact hR | apply Rd.cons | apply Rd.app) hn hm hf) ?_
 rintro _ _ ⟨rfl, e⟩; obtain rfl := e.symm
 refine RL.p T ?_
 refine RL.nil _ _ _ _ ?_
 refine hK2 _ _ _ ?_
 refine SW.cs (fun hc0 => ?_) (fun hc0 => ?_)
 ·skip
  first
   | (exfalso; clear hK2 K2; clear hK1 K1; clear hK0 K0; first | omega | contradiction | (simp_all; done))
   | (
    refine SW.seq_k fun K3 hK3 => ?_
    refine SW.region _ _ _ _ ?_
    refine RL.p T ?_
    refine RL.p T ?_
    refine RL.nil _ _ _ _ ?_
    refine hK3 _ _ _ ?_
    refine SW.ret ?_
    refine retQ.rr (H) ?_
    clear hK3 K3 hK2 K2 hK1 K1 hK0 K0
    refine ⟨?_, rfl⟩
    unfold keyF
    rw [if_pos he]
    rfl
    )
 ·skip
  first
   | (exfalso; clear hK2 K2; clear hK1 K1; clear hK0 K0; first | omega | contradiction | (simp_all; done))
   | (
    refine SW.skip ?_
    refine hK1 _ _ _ ?_
    refine SW.seq_k fun K4 hK4 => ?_
    refine SW.seq_k fun K5 hK5 => ?_
    refine SW.region _ _ _ _ ?_
    refine RL.p T ?_
    refine RL.lv1 T ?_
    refine RL.nil _ _ _ _ ?_
    refine hK5 _ _ _ ?_
    refine SW.cs (fun hc1 => ?_) (fun hc1 => ?_)
    ·skip
     first
      | (exfalso; clear hK5 K5; clear hK4 K4; clear hK2 K2; clear hK1 K1; clear hK0 K0; first | omega | contradiction | (simp_all; done))
      | (
       refine SW.seq_k fun K6 hK6 => ?_
       refine SW.drawQ [(11, 0), (12, 1), (13, 2), (14, 3), (15, 4), (16, 5), (17, 6), (18, 7), (4, 8), (5, 9)] [[], [0], [1, 0], [2, 1, 0], [], [4], [5, 4], [6, 5, 4], [3, 2, 1, 0], [7, 6, 5, 4, 8, 3, 2, 1, 0]] mixed (by kernel_rfl) (by kernel_rfl) ?_
       refine QL.p T ?_
       refine QL.lv1 T ?_
       refine QL.q (QV.shrP (s := 18) rfl rfl rfl rfl (by omega) rfl) ?_
       first | refine QL.cv T ?_ | refine QL.p T ?_ | refine QL.ts T ?_
       refine QL.p T ?_
       refine QL.lv1 T ?_
       refine QL.q (QV.mask32 (z := 18) T rfl rfl rfl (by omega) (by omega) (by omega)) ?_
       first | refine QL.cv T ?_ | refine QL.p T ?_ | refine QL.ts T ?_
       refine QL.p T ?_
       refine QL.p T ?_
       refine QL.nil ?_
       refine hK6 _ _ _ ?_
       refine SW.seq_k fun K7 hK7 => ?_
       refine SW.region _ _ _ _ ?_
       refine RL.p T ?_
       refine RL.q (QV.shlP (s := 23) rfl rfl rfl rfl rfl (by simp only [loK]; omega) (by simp only [hiK]; omega)) ?_
       refine RL.q (QV.orA T ((f.id / 2 ^ 18)).toNat 23 rfl rfl rfl (by rw [Int.toNat_of_nonneg (by omega)]; try omega) (by omega) (by omega) (by simp only [hiK]; omega)) ?_
       refine RL.p T ?_
       refine RL.q (QV.shlP (s := 3) rfl rfl rfl rfl rfl (by simp only [loK]; omega) (by simp only [hiK]; omega)) ?_
       refine RL.q (QV.orA T ((f.id / 2 ^ 18) * 4 + 3).toNat 21 rfl rfl rfl (by rw [Int.toNat_of_nonneg (by omega)]; try omega) (by omega) (by omega) (by simp only [hiK]; omega)) ?_
       refine RL.p T ?_
       refine RL.lv1 T ?_
       refine RL.c fun49 (fun hs => bit f.rtr 2 (by omega)) ?_
       rintro _ _ ⟨rfl, e⟩; obtain rfl := e.symm
       refine RL.q (QV.orA T ((f.id / 2 ^ 18) * 2 ^ 20 + 786432 + (f.id % 2 ^ 18)).toNat 3 rfl rfl rfl (by rw [Int.toNat_of_nonneg (by omega)]; try omega) (by omega) (by omega) (by simp only [hiK]; omega)) ?_
       refine RL.p T ?_
       refine RL.p T ?_
       refine RL.nil _ _ _ _ ?_
       refine hK7 _ _ _ ?_
       refine SW.ret ?_
       refine retQ.rr (H) ?_
       clear hK7 K7 hK6 K6 hK5 K5 hK4 K4 hK2 K2 hK1 K1 hK0 K0
       refine ⟨?_, rfl⟩
       unfold keyF
       rw [if_pos he]
       rfl
       )
    ·skip
     exfalso; clear hK5 K5; clear hK4 K4; clear hK2 K2; clear hK1 K1; clear hK0 K0; first | omega | contradiction | (simp_all; done)
    )
theorem key_n {w0 : World} {H : List Chunk} (f : Frm) (sa : Option Addr) (n c : Nat) (hR : Rd w0 H sa n c 1 (f.data.map (.int .u8))) (hn : n = f.data.length) (hm : n ≤ 140737488351232) (hf : FrOk f) (hc : chkF f = 0) (he : f.ext = false) : SC Try.prog w0 31 #[FA f sa n c] H (fun v H' => v = .tuple #[.int .u64 (keyF f), .int .i64 0] ∧ H' = H) := by
 refine SC.enter Try.func31 rfl (Nat.le_of_ble_eq_true rfl) ?_
 refine SW.seq_k fun K0 hK0 => ?_
 have hid := (chk_id hc).2 he
 have hi0 := hf.id
 have h22 : (if f.rtr = true then ((2 ^ 22 : Nat) : Int) else 0) = (if f.rtr = true then (1 : Int) else 0) * 2 ^ 22 ∧ 0 ≤ (if f.rtr = true then (1 : Int) else 0) ∧ (if f.rtr = true then (1 : Int) else 0) ≤ 1 := by split <;> decide
 have h20 : (if (!decide (f.kind = 1)) = true then ((2 ^ 20 : Nat) : Int) else 0) = (if (!decide (f.kind = 1)) = true then (1 : Int) else 0) * 2 ^ 20 ∧ 0 ≤ (if (!decide (f.kind = 1)) = true then (1 : Int) else 0) ∧ (if (!decide (f.kind = 1)) = true then (1 : Int) else 0) ≤ 1 := by split <;> decide
 have h19 : 0 ≤ (if (decide (f.kind = 3)) = true then ((2 ^ 19 : Nat) : Int) else 0) ∧ (if (decide (f.kind = 3)) = true then ((2 ^ 19 : Nat) : Int) else 0) ≤ 2 ^ 19 := by split <;> decide
 refine SW.region _ _ _ _ ?_
 refine RL.s ?_
 refine NV.box rfl (by exact (rfl : _ = [_, _, _, _, _, _, _, _, _, _, _])) ?_
 intro b1_0
 refine RL.p T ?_
 refine RL.p T ?_
 refine RL.nil _ _ _ _ ?_
 refine hK0 _ _ _ ?_
 refine SW.seq_k fun K1 hK1 => ?_
 refine SW.seq_k fun K2 hK2 => ?_
 refine SW.region _ _ _ _ ?_
 refine RL.q (QV.vN T rfl rfl rfl rfl rfl (by exact (rfl : _ = [_, _, _, _, _, _, _, _, _, _, _]))) ?_
 refine RL.c fun12 (fun hs => fcheck f sa n c (by repeat first | exact hR | apply Rd.cons | apply Rd.app) hn hm hf) ?_
 rintro _ _ ⟨rfl, e⟩; obtain rfl := e.symm
 refine RL.p T ?_
 refine RL.nil _ _ _ _ ?_
 refine hK2 _ _ _ ?_
 refine SW.cs (fun hc0 => ?_) (fun hc0 => ?_)
 ·skip
  first
   | (exfalso; clear hK2 K2; clear hK1 K1; clear hK0 K0; first | omega | contradiction | (simp_all; done))
   | (
    refine SW.seq_k fun K3 hK3 => ?_
    refine SW.region _ _ _ _ ?_
    refine RL.p T ?_
    refine RL.p T ?_
    refine RL.nil _ _ _ _ ?_
    refine hK3 _ _ _ ?_
    refine SW.ret ?_
    refine retQ.rr (H) ?_
    clear hK3 K3 hK2 K2 hK1 K1 hK0 K0
    refine ⟨?_, rfl⟩
    unfold keyF
    rw [if_neg (show ¬ (f.ext = true) by rw [he]; decide)]
    by_cases h1 : f.kind = 1 <;> by_cases h3 : f.kind = 3 <;> cases hr : f.rtr <;> simp [h1, h3] <;> rfl
    )
 ·skip
  first
   | (exfalso; clear hK2 K2; clear hK1 K1; clear hK0 K0; first | omega | contradiction | (simp_all; done))
   | (
    refine SW.skip ?_
    refine hK1 _ _ _ ?_
    refine SW.seq_k fun K4 hK4 => ?_
    refine SW.seq_k fun K5 hK5 => ?_
    refine SW.region _ _ _ _ ?_
    refine RL.p T ?_
    refine RL.lv1 T ?_
    refine RL.nil _ _ _ _ ?_
    refine hK5 _ _ _ ?_
    refine SW.cs (fun hc1 => ?_) (fun hc1 => ?_)
    ·skip
     exfalso; clear hK5 K5; clear hK4 K4; clear hK2 K2; clear hK1 K1; clear hK0 K0; first | omega | contradiction | (simp_all; done)
    ·skip
     first
      | (exfalso; clear hK5 K5; clear hK4 K4; clear hK2 K2; clear hK1 K1; clear hK0 K0; first | omega | contradiction | (simp_all; done))
      | (
       refine SW.skip ?_
       refine hK4 _ _ _ ?_
       refine SW.seq_k fun K6 hK6 => ?_
       refine SW.drawQ [(29, 0), (30, 1), (31, 2), (32, 3), (33, 4), (34, 5), (35, 6), (36, 7), (37, 8), (38, 9), (39, 10), (40, 11), (41, 12), (42, 13), (43, 14), (44, 15), (45, 16), (46, 17), (2, 18), (3, 19)] [[], [0], [1, 0], [2, 1, 0], [], [4], [5, 4], [3, 2, 1, 0, 6, 5, 4], [], [8], [9, 8], [10, 9, 8, 6, 5, 4], [7, 3, 2, 1, 0, 6, 5, 4, 11, 10, 9, 8], [], [13], [14, 13], [15, 14, 13, 11, 10, 9, 8, 6, 5, 4], [12, 7, 3, 2, 1, 0, 6, 5, 4, 11, 10, 9, 8, 16, 15, 14, 13], [17, 12, 7, 3, 2, 1, 0, 6, 5, 4, 11, 10, 9, 8, 16, 15, 14, 13], [18, 17, 12, 7, 3, 2, 1, 0, 6, 5, 4, 11, 10, 9, 8, 16, 15, 14, 13]] mixed (by kernel_rfl) (by kernel_rfl) ?_
       refine QL.p T ?_
       refine QL.lv1 T ?_
       first | refine QL.cv T ?_ | refine QL.p T ?_ | refine QL.ts T ?_
       refine QL.q (QV.shlP (s := 23) rfl rfl rfl rfl rfl (by simp only [loK]; omega) (by simp only [hiK]; omega)) ?_
       refine QL.p T ?_
       refine QL.lv1 T ?_
       refine QL.c fun49 (fun hs => bit f.rtr 22 (by omega)) ?_
       refine QL.q (QV.orA T (f.id).toNat 23 rfl rfl rfl (by rw [Int.toNat_of_nonneg (by omega)]; try omega) (by omega) (by omega) (by simp only [hiK]; omega)) ?_
       refine QL.p T ?_
       refine QL.lv1 T ?_
       refine QL.p T ?_
       refine QL.c fun49 (fun hs => bit (!decide (f.kind = 1)) 20 (by omega)) ?_
       refine QL.q (QV.orA T (f.id * 2 + (if f.rtr = true then (1 : Int) else 0)).toNat 22 rfl rfl rfl (by rw [Int.toNat_of_nonneg (by omega)]; try omega) (by omega) (by omega) (by simp only [hiK]; omega)) ?_
       refine QL.p T ?_
       refine QL.lv1 T ?_
       refine QL.p T ?_
       refine QL.c fun49 (fun hs => bit (decide (f.kind = 3)) 19 (by omega)) ?_
       refine QL.q (QV.orA T (f.id * 8 + (if f.rtr = true then (1 : Int) else 0) * 4 + (if (!decide (f.kind = 1)) = true then (1 : Int) else 0)).toNat 20 rfl rfl rfl (by rw [Int.toNat_of_nonneg (by omega)]; try omega) (by omega) (by omega) (by simp only [hiK]; omega)) ?_
       refine QL.p T ?_
       refine QL.p T ?_
       refine QL.nil ?_
       refine hK6 _ _ _ ?_
       refine SW.ret ?_
       refine retQ.rr (H) ?_
       clear hK6 K6 hK5 K5 hK4 K4 hK2 K2 hK1 K1 hK0 K0
       refine ⟨?_, rfl⟩
       unfold keyF
       rw [if_neg (show ¬ (f.ext = true) by rw [he]; decide)]
       by_cases h1 : f.kind = 1 <;> by_cases h3 : f.kind = 3 <;> cases hr : f.rtr <;> simp [h1, h3] <;> rfl
       )
    )
theorem key {w0 : World} {H : List Chunk} (f : Frm) (sa : Option Addr) (n c : Nat) (hR : Rd w0 H sa n c 1 (f.data.map (.int .u8))) (hn : n = f.data.length) (hm : n ≤ 140737488351232) (hf : FrOk f) (hc : chkF f = 0) : SC Try.prog w0 31 #[FA f sa n c] H (fun v H' => v = .tuple #[.int .u64 (keyF f), .int .i64 0] ∧ H' = H) := by
  cases he : f.ext with
  | true => exact key_e f sa n c hR hn hm hf hc he
  | false => exact key_n f sa n c hR hn hm hf hc he
end Go.Proofs.Ytjemdjjmpgjieaa.M
