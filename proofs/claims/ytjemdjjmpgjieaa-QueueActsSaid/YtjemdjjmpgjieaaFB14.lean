import Derived.Test.YtjemdjjmpgjieaaProg
import Derived.Test.YtjemdjjmpgjieaaFA14
import Derived.Test.YtjemdjjmpgjieaaS36
import Derived.Test.YtjemdjjmpgjieaaP14f
set_option linter.unusedVariables false
set_option linter.unusedSimpArgs false
namespace Go.Proofs.Ytjemdjjmpgjieaa.M
open Go Go.Sep Go.Proofs
set_option maxRecDepth 10000
set_option maxHeartbeats 2000000
theorem bit {w0 : World} {H : List Chunk} (b : Bool) (s : Nat) (hs : s < 64) : SC Try.prog w0 49 #[.bool b, .int .i64 (s : Int)] H (fun v H' => v = .int .u64 (if b = true then ((2 ^ s : Nat) : Int) else 0) ∧ H' = H) := by
 refine SC.enter Try.func49 rfl (Nat.le_of_ble_eq_true rfl) ?_
 refine SW.seq_k fun K0 hK0 => ?_
 refine SW.region _ _ _ _ ?_
 refine RL.p T ?_
 refine RL.nil _ _ _ _ ?_
 refine hK0 _ _ _ ?_
 refine SW.seq_k fun K1 hK1 => ?_
 refine SW.seq_k fun K2 hK2 => ?_
 refine SW.region _ _ _ _ ?_
 refine RL.p T ?_
 refine RL.nil _ _ _ _ ?_
 refine hK2 _ _ _ ?_
 refine SW.cs (fun hc0 => ?_) (fun hc0 => ?_)
 ·skip
  first
   | (exfalso; first | omega | contradiction | (clear hK2 K2; clear hK1 K1; clear hK0 K0; simp at *; done))
   | (
    refine SW.seq_k fun K3 hK3 => ?_
    refine SW.region _ _ _ _ ?_
    refine RL.p T ?_
    refine RL.q (QV.one_shl rfl rfl rfl rfl hs) ?_
    refine RL.p T ?_
    refine RL.nil _ _ _ _ ?_
    refine hK3 _ _ _ ?_
    refine SW.ret ?_
    refine retQ.rr (H) ?_
    clear hK3 K3 hK2 K2 hK1 K1 hK0 K0
    first
      | (have hb : b = true := by assumption
         subst hb; exact ⟨rfl, rfl⟩)
      | (have hb : b = false := by cases b <;> simp_all
         subst hb; exact ⟨rfl, rfl⟩)
    )
 ·skip
  first
   | (exfalso; first | omega | contradiction | (clear hK2 K2; clear hK1 K1; clear hK0 K0; simp at *; done))
   | (
    refine SW.skip ?_
    refine hK1 _ _ _ ?_
    refine SW.seq_k fun K4 hK4 => ?_
    refine SW.region _ _ _ _ ?_
    refine RL.p T ?_
    refine RL.nil _ _ _ _ ?_
    refine hK4 _ _ _ ?_
    refine SW.ret ?_
    refine retQ.rr (H) ?_
    clear hK4 K4 hK2 K2 hK1 K1 hK0 K0
    first
      | (have hb : b = true := by assumption
         subst hb; exact ⟨rfl, rfl⟩)
      | (have hb : b = false := by cases b <;> simp_all
         subst hb; exact ⟨rfl, rfl⟩)
    )
theorem nan62 {w0 : World} {H : List Chunk} (z : Int) : SC Try.prog w0 62 #[.int .u64 z] H (fun v H' => v = .bool false ∧ H' = H) := by
 refine SC.enter Try.func62 rfl (Nat.le_of_ble_eq_true rfl) ?_
 refine SW.seq_k fun K0 hK0 => ?_
 refine SW.region _ _ _ _ ?_
 refine RL.p T ?_
 refine RL.nil _ _ _ _ ?_
 refine hK0 _ _ _ ?_
 refine SW.seq_k fun K1 hK1 => ?_
 refine SW.region _ _ _ _ ?_
 refine RL.p T ?_
 refine RL.p T ?_
 refine RL.p T ?_
 refine RL.p T ?_
 refine RL.nil _ _ _ _ ?_
 refine hK1 _ _ _ ?_
 refine SW.ret ?_
 refine retQ.rr (H) ?_
 clear hK1 K1 hK0 K0
 refine ⟨boolE ?_, rfl⟩; simp
theorem nan72 {w0 : World} {H : List Chunk} (z : Int) : SC Try.prog w0 72 #[.int .i64 z] H (fun v H' => v = .bool false ∧ H' = H) := by
 refine SC.enter Try.func72 rfl (Nat.le_of_ble_eq_true rfl) ?_
 refine SW.seq_k fun K0 hK0 => ?_
 refine SW.region _ _ _ _ ?_
 refine RL.p T ?_
 refine RL.nil _ _ _ _ ?_
 refine hK0 _ _ _ ?_
 refine SW.seq_k fun K1 hK1 => ?_
 refine SW.region _ _ _ _ ?_
 refine RL.p T ?_
 refine RL.p T ?_
 refine RL.p T ?_
 refine RL.p T ?_
 refine RL.nil _ _ _ _ ?_
 refine hK1 _ _ _ ?_
 refine SW.ret ?_
 refine retQ.rr (H) ?_
 clear hK1 K1 hK0 K0
 refine ⟨boolE ?_, rfl⟩; simp
theorem cmp_u64 {w0 : World} {H : List Chunk} (x y : Int) : SC Try.prog w0 48 #[.int .u64 x, .int .u64 y] H (fun v H' => v = .int .i64 (cmpI x y) ∧ H' = H) := by
 refine SC.enter Try.func48 rfl (Nat.le_of_ble_eq_true rfl) ?_
 refine SW.seq_k fun K0 hK0 => ?_
 refine SW.region _ _ _ _ ?_
 refine RL.p T ?_
 refine RL.nil _ _ _ _ ?_
 refine hK0 _ _ _ ?_
 refine SW.seq_k fun K1 hK1 => ?_
 refine SW.region _ _ _ _ ?_
 refine RL.p T ?_
 refine RL.c fun62 (fun hs => nan62 x) ?_
 rintro _ _ ⟨rfl, e⟩; obtain rfl := e.symm
 refine RL.p T ?_
 refine RL.nil _ _ _ _ ?_
 refine hK1 _ _ _ ?_
 refine SW.seq_k fun K2 hK2 => ?_
 refine SW.region _ _ _ _ ?_
 refine RL.p T ?_
 refine RL.c fun62 (fun hs => nan62 y) ?_
 rintro _ _ ⟨rfl, e⟩; obtain rfl := e.symm
 refine RL.p T ?_
 refine RL.nil _ _ _ _ ?_
 refine hK2 _ _ _ ?_
 refine SW.seq_k fun K3 hK3 => ?_
 refine SW.seq_k fun K4 hK4 => ?_
 refine SW.region _ _ _ _ ?_
 refine RL.p T ?_
 refine RL.nil _ _ _ _ ?_
 refine hK4 _ _ _ ?_
 refine SW.cs (fun hc0 => ?_) (fun hc0 => ?_)
 ·skip
  first
   | (exfalso; first | omega | contradiction | (clear hK4 K4; clear hK3 K3; clear hK2 K2; clear hK1 K1; clear hK0 K0; simp at *; done))
   | (
    refine SW.seq_k fun K5 hK5 => ?_
    refine SW.seq_k fun K6 hK6 => ?_
    refine SW.region _ _ _ _ ?_
    refine RL.p T ?_
    refine RL.nil _ _ _ _ ?_
    refine hK6 _ _ _ ?_
    refine SW.cs (fun hc1 => ?_) (fun hc1 => ?_)
    ·skip
     first
      | (exfalso; first | omega | contradiction | (clear hK6 K6; clear hK5 K5; clear hK4 K4; clear hK3 K3; clear hK2 K2; clear hK1 K1; clear hK0 K0; simp at *; done))
      | (
       refine SW.seq_k fun K7 hK7 => ?_
       refine SW.region _ _ _ _ ?_
       refine RL.p T ?_
       refine RL.nil _ _ _ _ ?_
       refine hK7 _ _ _ ?_
       refine SW.ret ?_
       refine retQ.rr (H) ?_
       clear hK7 K7 hK6 K6 hK5 K5 hK4 K4 hK3 K3 hK2 K2 hK1 K1 hK0 K0
       refine ⟨intE ?_, rfl⟩
       unfold cmpI
       first
         | (rw [if_pos (by omega)]; done)
         | (rw [if_neg (by omega), if_pos (by omega)]; done)
         | (rw [if_neg (by omega), if_neg (by omega)]; done)
       )
    ·skip
     first
      | (exfalso; first | omega | contradiction | (clear hK6 K6; clear hK5 K5; clear hK4 K4; clear hK3 K3; clear hK2 K2; clear hK1 K1; clear hK0 K0; simp at *; done))
      | (
       refine SW.skip ?_
       refine hK5 _ _ _ ?_
       refine SW.seq_k fun K8 hK8 => ?_
       refine SW.region _ _ _ _ ?_
       refine RL.p T ?_
       refine RL.nil _ _ _ _ ?_
       refine hK8 _ _ _ ?_
       refine SW.ret ?_
       refine retQ.rr (H) ?_
       clear hK8 K8 hK6 K6 hK5 K5 hK4 K4 hK3 K3 hK2 K2 hK1 K1 hK0 K0
       refine ⟨intE ?_, rfl⟩
       unfold cmpI
       first
         | (rw [if_pos (by omega)]; done)
         | (rw [if_neg (by omega), if_pos (by omega)]; done)
         | (rw [if_neg (by omega), if_neg (by omega)]; done)
       )
    )
 ·skip
  first
   | (exfalso; first | omega | contradiction | (clear hK4 K4; clear hK3 K3; clear hK2 K2; clear hK1 K1; clear hK0 K0; simp at *; done))
   | (
    refine SW.skip ?_
    refine hK3 _ _ _ ?_
    refine SW.seq_k fun K9 hK9 => ?_
    refine SW.seq_k fun K10 hK10 => ?_
    refine SW.region _ _ _ _ ?_
    refine RL.p T ?_
    refine RL.nil _ _ _ _ ?_
    refine hK10 _ _ _ ?_
    refine SW.cs (fun hc2 => ?_) (fun hc2 => ?_)
    ·skip
     first
      | (exfalso; first | omega | contradiction | (clear hK10 K10; clear hK9 K9; clear hK4 K4; clear hK3 K3; clear hK2 K2; clear hK1 K1; clear hK0 K0; simp at *; done))
      | (
       refine SW.seq_k fun K11 hK11 => ?_
       refine SW.region _ _ _ _ ?_
       refine RL.p T ?_
       refine RL.nil _ _ _ _ ?_
       refine hK11 _ _ _ ?_
       refine SW.ret ?_
       refine retQ.rr (H) ?_
       clear hK11 K11 hK10 K10 hK9 K9 hK4 K4 hK3 K3 hK2 K2 hK1 K1 hK0 K0
       refine ⟨intE ?_, rfl⟩
       unfold cmpI
       first
         | (rw [if_pos (by omega)]; done)
         | (rw [if_neg (by omega), if_pos (by omega)]; done)
         | (rw [if_neg (by omega), if_neg (by omega)]; done)
       )
    ·skip
     first
      | (exfalso; first | omega | contradiction | (clear hK10 K10; clear hK9 K9; clear hK4 K4; clear hK3 K3; clear hK2 K2; clear hK1 K1; clear hK0 K0; simp at *; done))
      | (
       refine SW.skip ?_
       refine hK9 _ _ _ ?_
       refine SW.seq_k fun K12 hK12 => ?_
       refine SW.seq_k fun K13 hK13 => ?_
       refine SW.region _ _ _ _ ?_
       refine RL.p T ?_
       refine RL.p T ?_
       refine RL.p T ?_
       refine RL.nil _ _ _ _ ?_
       refine hK13 _ _ _ ?_
       refine SW.cs (fun hc3 => ?_) (fun hc3 => ?_)
       ·skip
        first
         | (exfalso; first | omega | contradiction | (clear hK13 K13; clear hK12 K12; clear hK10 K10; clear hK9 K9; clear hK4 K4; clear hK3 K3; clear hK2 K2; clear hK1 K1; clear hK0 K0; simp at *; done))
         | (
          refine SW.seq_k fun K14 hK14 => ?_
          refine SW.region _ _ _ _ ?_
          refine RL.p T ?_
          refine RL.nil _ _ _ _ ?_
          refine hK14 _ _ _ ?_
          refine SW.ret ?_
          refine retQ.rr (H) ?_
          clear hK14 K14 hK13 K13 hK12 K12 hK10 K10 hK9 K9 hK4 K4 hK3 K3 hK2 K2 hK1 K1 hK0 K0
          refine ⟨intE ?_, rfl⟩
          unfold cmpI
          first
            | (rw [if_pos (by omega)]; done)
            | (rw [if_neg (by omega), if_pos (by omega)]; done)
            | (rw [if_neg (by omega), if_neg (by omega)]; done)
          )
       ·skip
        first
         | (exfalso; first | omega | contradiction | (clear hK13 K13; clear hK12 K12; clear hK10 K10; clear hK9 K9; clear hK4 K4; clear hK3 K3; clear hK2 K2; clear hK1 K1; clear hK0 K0; simp at *; done))
         | (
          refine SW.skip ?_
          refine hK12 _ _ _ ?_
          refine SW.seq_k fun K15 hK15 => ?_
          refine SW.seq_k fun K16 hK16 => ?_
          refine SW.region _ _ _ _ ?_
          refine RL.p T ?_
          refine RL.p T ?_
          refine RL.p T ?_
          refine RL.nil _ _ _ _ ?_
          refine hK16 _ _ _ ?_
          refine SW.cs (fun hc4 => ?_) (fun hc4 => ?_)
          ·skip
           first
            | (exfalso; first | omega | contradiction | (clear hK16 K16; clear hK15 K15; clear hK13 K13; clear hK12 K12; clear hK10 K10; clear hK9 K9; clear hK4 K4; clear hK3 K3; clear hK2 K2; clear hK1 K1; clear hK0 K0; simp at *; done))
            | (
             refine SW.seq_k fun K17 hK17 => ?_
             refine SW.region _ _ _ _ ?_
             refine RL.p T ?_
             refine RL.nil _ _ _ _ ?_
             refine hK17 _ _ _ ?_
             refine SW.ret ?_
             refine retQ.rr (H) ?_
             clear hK17 K17 hK16 K16 hK15 K15 hK13 K13 hK12 K12 hK10 K10 hK9 K9 hK4 K4 hK3 K3 hK2 K2 hK1 K1 hK0 K0
             refine ⟨intE ?_, rfl⟩
             unfold cmpI
             first
               | (rw [if_pos (by omega)]; done)
               | (rw [if_neg (by omega), if_pos (by omega)]; done)
               | (rw [if_neg (by omega), if_neg (by omega)]; done)
             )
          ·skip
           first
            | (exfalso; first | omega | contradiction | (clear hK16 K16; clear hK15 K15; clear hK13 K13; clear hK12 K12; clear hK10 K10; clear hK9 K9; clear hK4 K4; clear hK3 K3; clear hK2 K2; clear hK1 K1; clear hK0 K0; simp at *; done))
            | (
             refine SW.skip ?_
             refine hK15 _ _ _ ?_
             refine SW.seq_k fun K18 hK18 => ?_
             refine SW.region _ _ _ _ ?_
             refine RL.p T ?_
             refine RL.nil _ _ _ _ ?_
             refine hK18 _ _ _ ?_
             refine SW.ret ?_
             refine retQ.rr (H) ?_
             clear hK18 K18 hK16 K16 hK15 K15 hK13 K13 hK12 K12 hK10 K10 hK9 K9 hK4 K4 hK3 K3 hK2 K2 hK1 K1 hK0 K0
             refine ⟨intE ?_, rfl⟩
             unfold cmpI
             first
               | (rw [if_pos (by omega)]; done)
               | (rw [if_neg (by omega), if_pos (by omega)]; done)
               | (rw [if_neg (by omega), if_neg (by omega)]; done)
             )
          )
       )
    )
theorem cmp_i64 {w0 : World} {H : List Chunk} (x y : Int) : SC Try.prog w0 61 #[.int .i64 x, .int .i64 y] H (fun v H' => v = .int .i64 (cmpI x y) ∧ H' = H) := by
 refine SC.enter Try.func61 rfl (Nat.le_of_ble_eq_true rfl) ?_
 refine SW.seq_k fun K0 hK0 => ?_
 refine SW.region _ _ _ _ ?_
 refine RL.p T ?_
 refine RL.nil _ _ _ _ ?_
 refine hK0 _ _ _ ?_
 refine SW.seq_k fun K1 hK1 => ?_
 refine SW.region _ _ _ _ ?_
 refine RL.p T ?_
 refine RL.c fun72 (fun hs => nan72 x) ?_
 rintro _ _ ⟨rfl, e⟩; obtain rfl := e.symm
 refine RL.p T ?_
 refine RL.nil _ _ _ _ ?_
 refine hK1 _ _ _ ?_
 refine SW.seq_k fun K2 hK2 => ?_
 refine SW.region _ _ _ _ ?_
 refine RL.p T ?_
 refine RL.c fun72 (fun hs => nan72 y) ?_
 rintro _ _ ⟨rfl, e⟩; obtain rfl := e.symm
 refine RL.p T ?_
 refine RL.nil _ _ _ _ ?_
 refine hK2 _ _ _ ?_
 refine SW.seq_k fun K3 hK3 => ?_
 refine SW.seq_k fun K4 hK4 => ?_
 refine SW.region _ _ _ _ ?_
 refine RL.p T ?_
 refine RL.nil _ _ _ _ ?_
 refine hK4 _ _ _ ?_
 refine SW.cs (fun hc0 => ?_) (fun hc0 => ?_)
 ·skip
  first
   | (exfalso; first | omega | contradiction | (clear hK4 K4; clear hK3 K3; clear hK2 K2; clear hK1 K1; clear hK0 K0; simp at *; done))
   | (
    refine SW.seq_k fun K5 hK5 => ?_
    refine SW.seq_k fun K6 hK6 => ?_
    refine SW.region _ _ _ _ ?_
    refine RL.p T ?_
    refine RL.nil _ _ _ _ ?_
    refine hK6 _ _ _ ?_
    refine SW.cs (fun hc1 => ?_) (fun hc1 => ?_)
    ·skip
     first
      | (exfalso; first | omega | contradiction | (clear hK6 K6; clear hK5 K5; clear hK4 K4; clear hK3 K3; clear hK2 K2; clear hK1 K1; clear hK0 K0; simp at *; done))
      | (
       refine SW.seq_k fun K7 hK7 => ?_
       refine SW.region _ _ _ _ ?_
       refine RL.p T ?_
       refine RL.nil _ _ _ _ ?_
       refine hK7 _ _ _ ?_
       refine SW.ret ?_
       refine retQ.rr (H) ?_
       clear hK7 K7 hK6 K6 hK5 K5 hK4 K4 hK3 K3 hK2 K2 hK1 K1 hK0 K0
       refine ⟨intE ?_, rfl⟩
       unfold cmpI
       first
         | (rw [if_pos (by omega)]; done)
         | (rw [if_neg (by omega), if_pos (by omega)]; done)
         | (rw [if_neg (by omega), if_neg (by omega)]; done)
       )
    ·skip
     first
      | (exfalso; first | omega | contradiction | (clear hK6 K6; clear hK5 K5; clear hK4 K4; clear hK3 K3; clear hK2 K2; clear hK1 K1; clear hK0 K0; simp at *; done))
      | (
       refine SW.skip ?_
       refine hK5 _ _ _ ?_
       refine SW.seq_k fun K8 hK8 => ?_
       refine SW.region _ _ _ _ ?_
       refine RL.p T ?_
       refine RL.nil _ _ _ _ ?_
       refine hK8 _ _ _ ?_
       refine SW.ret ?_
       refine retQ.rr (H) ?_
       clear hK8 K8 hK6 K6 hK5 K5 hK4 K4 hK3 K3 hK2 K2 hK1 K1 hK0 K0
       refine ⟨intE ?_, rfl⟩
       unfold cmpI
       first
         | (rw [if_pos (by omega)]; done)
         | (rw [if_neg (by omega), if_pos (by omega)]; done)
         | (rw [if_neg (by omega), if_neg (by omega)]; done)
       )
    )
 ·skip
  first
   | (exfalso; first | omega | contradiction | (clear hK4 K4; clear hK3 K3; clear hK2 K2; clear hK1 K1; clear hK0 K0; simp at *; done))
   | (
    refine SW.skip ?_
    refine hK3 _ _ _ ?_
    refine SW.seq_k fun K9 hK9 => ?_
    refine SW.seq_k fun K10 hK10 => ?_
    refine SW.region _ _ _ _ ?_
    refine RL.p T ?_
    refine RL.nil _ _ _ _ ?_
    refine hK10 _ _ _ ?_
    refine SW.cs (fun hc2 => ?_) (fun hc2 => ?_)
    ·skip
     first
      | (exfalso; first | omega | contradiction | (clear hK10 K10; clear hK9 K9; clear hK4 K4; clear hK3 K3; clear hK2 K2; clear hK1 K1; clear hK0 K0; simp at *; done))
      | (
       refine SW.seq_k fun K11 hK11 => ?_
       refine SW.region _ _ _ _ ?_
       refine RL.p T ?_
       refine RL.nil _ _ _ _ ?_
       refine hK11 _ _ _ ?_
       refine SW.ret ?_
       refine retQ.rr (H) ?_
       clear hK11 K11 hK10 K10 hK9 K9 hK4 K4 hK3 K3 hK2 K2 hK1 K1 hK0 K0
       refine ⟨intE ?_, rfl⟩
       unfold cmpI
       first
         | (rw [if_pos (by omega)]; done)
         | (rw [if_neg (by omega), if_pos (by omega)]; done)
         | (rw [if_neg (by omega), if_neg (by omega)]; done)
       )
    ·skip
     first
      | (exfalso; first | omega | contradiction | (clear hK10 K10; clear hK9 K9; clear hK4 K4; clear hK3 K3; clear hK2 K2; clear hK1 K1; clear hK0 K0; simp at *; done))
      | (
       refine SW.skip ?_
       refine hK9 _ _ _ ?_
       refine SW.seq_k fun K12 hK12 => ?_
       refine SW.seq_k fun K13 hK13 => ?_
       refine SW.region _ _ _ _ ?_
       refine RL.p T ?_
       refine RL.p T ?_
       refine RL.p T ?_
       refine RL.nil _ _ _ _ ?_
       refine hK13 _ _ _ ?_
       refine SW.cs (fun hc3 => ?_) (fun hc3 => ?_)
       ·skip
        first
         | (exfalso; first | omega | contradiction | (clear hK13 K13; clear hK12 K12; clear hK10 K10; clear hK9 K9; clear hK4 K4; clear hK3 K3; clear hK2 K2; clear hK1 K1; clear hK0 K0; simp at *; done))
         | (
          refine SW.seq_k fun K14 hK14 => ?_
          refine SW.region _ _ _ _ ?_
          refine RL.p T ?_
          refine RL.nil _ _ _ _ ?_
          refine hK14 _ _ _ ?_
          refine SW.ret ?_
          refine retQ.rr (H) ?_
          clear hK14 K14 hK13 K13 hK12 K12 hK10 K10 hK9 K9 hK4 K4 hK3 K3 hK2 K2 hK1 K1 hK0 K0
          refine ⟨intE ?_, rfl⟩
          unfold cmpI
          first
            | (rw [if_pos (by omega)]; done)
            | (rw [if_neg (by omega), if_pos (by omega)]; done)
            | (rw [if_neg (by omega), if_neg (by omega)]; done)
          )
       ·skip
        first
         | (exfalso; first | omega | contradiction | (clear hK13 K13; clear hK12 K12; clear hK10 K10; clear hK9 K9; clear hK4 K4; clear hK3 K3; clear hK2 K2; clear hK1 K1; clear hK0 K0; simp at *; done))
         | (
          refine SW.skip ?_
          refine hK12 _ _ _ ?_
          refine SW.seq_k fun K15 hK15 => ?_
          refine SW.seq_k fun K16 hK16 => ?_
          refine SW.region _ _ _ _ ?_
          refine RL.p T ?_
          refine RL.p T ?_
          refine RL.p T ?_
          refine RL.nil _ _ _ _ ?_
          refine hK16 _ _ _ ?_
          refine SW.cs (fun hc4 => ?_) (fun hc4 => ?_)
          ·skip
           first
            | (exfalso; first | omega | contradiction | (clear hK16 K16; clear hK15 K15; clear hK13 K13; clear hK12 K12; clear hK10 K10; clear hK9 K9; clear hK4 K4; clear hK3 K3; clear hK2 K2; clear hK1 K1; clear hK0 K0; simp at *; done))
            | (
             refine SW.seq_k fun K17 hK17 => ?_
             refine SW.region _ _ _ _ ?_
             refine RL.p T ?_
             refine RL.nil _ _ _ _ ?_
             refine hK17 _ _ _ ?_
             refine SW.ret ?_
             refine retQ.rr (H) ?_
             clear hK17 K17 hK16 K16 hK15 K15 hK13 K13 hK12 K12 hK10 K10 hK9 K9 hK4 K4 hK3 K3 hK2 K2 hK1 K1 hK0 K0
             refine ⟨intE ?_, rfl⟩
             unfold cmpI
             first
               | (rw [if_pos (by omega)]; done)
               | (rw [if_neg (by omega), if_pos (by omega)]; done)
               | (rw [if_neg (by omega), if_neg (by omega)]; done)
             )
          ·skip
           first
            | (exfalso; first | omega | contradiction | (clear hK16 K16; clear hK15 K15; clear hK13 K13; clear hK12 K12; clear hK10 K10; clear hK9 K9; clear hK4 K4; clear hK3 K3; clear hK2 K2; clear hK1 K1; clear hK0 K0; simp at *; done))
            | (
             refine SW.skip ?_
             refine hK15 _ _ _ ?_
             refine SW.seq_k fun K18 hK18 => ?_
             refine SW.region _ _ _ _ ?_
             refine RL.p T ?_
             refine RL.nil _ _ _ _ ?_
             refine hK18 _ _ _ ?_
             refine SW.ret ?_
             refine retQ.rr (H) ?_
             clear hK18 K18 hK16 K16 hK15 K15 hK13 K13 hK12 K12 hK10 K10 hK9 K9 hK4 K4 hK3 K3 hK2 K2 hK1 K1 hK0 K0
             refine ⟨intE ?_, rfl⟩
             unfold cmpI
             first
               | (rw [if_pos (by omega)]; done)
               | (rw [if_neg (by omega), if_pos (by omega)]; done)
               | (rw [if_neg (by omega), if_neg (by omega)]; done)
             )
          )
       )
    )
theorem or_step {l : List Int} {k : Nat} (h : ∀ j, j < k → l.getD j 0 = 0) (hk : l.getD k 0 = 0) : ∀ j, j < k + 1 → l.getD j 0 = 0 := fun j hj => by
  rcases Nat.lt_or_ge j k with h1 | h1
  · exact h j h1
  · obtain rfl : j = k := by omega
    exact hk
theorem or_end {x y : Int} {k : Nat} (h : ∀ j, j < k → [x, y].getD j 0 = 0) (hk : 2 ≤ k) : (if x ≠ 0 then x else y) = 0 := by
  have h0 := h 0 (by omega)
  have h1 := h 1 (by omega)
  simp at h0 h1
  simp [h0, h1]
theorem or_hit {x y : Int} {k : Nat} (h : ∀ j, j < k → [x, y].getD j 0 = 0) (hk : k < 2) (h2 : [x, y].getD k 0 ≠ 0) : (if x ≠ 0 then x else y) = [x, y].getD k 0 := by
  rcases Nat.lt_or_ge k 1 with h1 | h1
  · obtain rfl : k = 0 := by omega
    have : x ≠ 0 := by simpa using h2
    simp [this]
  · obtain rfl : k = 1 := by omega
    have h0 := h 0 (by omega)
    have : x = 0 := by simpa using h0
    simp [this]
theorem cmpOr {w0 : World} {H : List Chunk} (sa : Option Addr) (c : Nat) (x y : Int) (hR : Rd w0 H sa 2 c 1 ([x, y].map (.int .i64))) : SC Try.prog w0 60 #[.slice sa 2 c] H (fun v H' => v = .int .i64 (if x ≠ 0 then x else y) ∧ H' = H) := by
 refine SC.enter Try.func60 rfl (Nat.le_of_ble_eq_true rfl) ?_
 refine SW.seq_k fun K0 hK0 => ?_
 refine SW.region _ _ _ _ ?_
 refine RL.p T ?_
 refine RL.nil _ _ _ _ ?_
 refine hK0 _ _ _ ?_
 refine SW.seq_k fun K1 hK1 => ?_
 refine SW.region _ _ _ _ ?_
 refine RL.p T ?_
 refine RL.nil _ _ _ _ ?_
 refine hK1 _ _ _ ?_
 refine SW.seq_k fun K2 hK2 => ?_
 refine SW.seq_k fun K3 hK3 => ?_
 refine SW.region _ _ _ _ ?_
 refine RL.p T ?_
 refine RL.p T ?_
 refine RL.p T ?_
 refine RL.nil _ _ _ _ ?_
 refine hK3 _ _ _ ?_
 refine SW.block ?_
 refine SW.loopM (fun frB mm fr ds HH => ∃ (k : Nat) , mm = 2 - k ∧ (k ≤ 2 ∧ (∀ j, j < k → [x, y].getD j 0 = 0)) ∧ FrIs [2, 5, 8, 9, 10, 11, 12, 13, 14, 15, 16] frB fr [(8, .int .i64 k)] ∧ ds = [] ∧ HH = H) (n := 2 - 0) ?_ ?_
 ·exact ⟨0, rfl, ⟨Nat.zero_le _, (fun j h => by omega)⟩, (.cons rfl (.nil (by repeat first | with_reducible exact Mx.refl | with_reducible exact Mx.mix | refine Mx.put rfl ?_ | refine Mx.upd rfl ?_ | refine Mx.updl rfl ?_ | refine Mx.fin rfl ?_ | refine Mx.inner rfl ?_ | refine Mx.none ?_ | exact Mx.refl | exact Mx.mix))), rfl, rfl⟩
 ·rintro mm fr ds HH ⟨k, rfl, ⟨hk, h0⟩, hFr, rfl, eHH⟩
  obtain rfl := eHH.symm
  obtain ⟨frU, rfl⟩ := hFr.eq
  clear hFr
  refine SW.seq_k fun K4 hK4 => ?_
  refine SW.region _ _ _ _ ?_
  refine RL.p T ?_
  refine RL.nil _ _ _ _ ?_
  refine hK4 _ _ _ ?_
  refine SW.seq_k fun K5 hK5 => ?_
  refine SW.cs (fun hc0 => ?_) (fun hc0 => ?_)
  ·skip
   first
    | (exfalso; first | omega | contradiction | (clear hK5 K5; clear hK4 K4; clear hK3 K3; clear hK2 K2; clear hK1 K1; clear hK0 K0; simp at *; done))
    | (
     refine SW.skip ?_
     refine hK5 _ _ _ ?_
     refine SW.seq_k fun K6 hK6 => ?_
     refine SW.block ?_
     refine SW.seq_k fun K7 hK7 => ?_
     refine SW.region _ _ _ _ ?_
     refine RL.ix T ?_ (hR := fun hs => hR)
     refine RL.le T ?_ (hR := fun hs => hR) (hv := (map_get _ _ (by show k < 2; omega)))
     refine RL.p T ?_
     refine RL.nil _ _ _ _ ?_
     refine hK7 _ _ _ ?_
     refine SW.seq_k fun K8 hK8 => ?_
     refine SW.region _ _ _ _ ?_
     refine RL.p T ?_
     refine RL.p T ?_
     refine RL.p T ?_
     refine RL.nil _ _ _ _ ?_
     refine hK8 _ _ _ ?_
     refine SW.cs (fun hc1 => ?_) (fun hc1 => ?_)
     ·skip
      first
       | (exfalso; first | omega | contradiction | (clear hK8 K8; clear hK7 K7; clear hK6 K6; clear hK5 K5; clear hK4 K4; clear hK3 K3; clear hK2 K2; clear hK1 K1; clear hK0 K0; simp at *; done))
       | (
        refine SW.seq_k fun K9 hK9 => ?_
        refine SW.region _ _ _ _ ?_
        refine RL.p T ?_
        refine RL.p T ?_
        refine RL.nil _ _ _ _ ?_
        refine hK9 _ _ _ ?_
        refine SW.ret ?_
        refine retQ.rr (H) ?_
        clear hK9 K9 hK8 K8 hK7 K7 hK6 K6 hK5 K5 hK4 K4 hK3 K3 hK2 K2 hK1 K1 hK0 K0
        refine ⟨intE ?_, rfl⟩
        first
          | (rw [or_hit h0 (by omega) (by omega)]; done)
          | (rw [or_end h0 (by omega)]; done)
        )
     ·skip
      first
       | (exfalso; first | omega | contradiction | (clear hK8 K8; clear hK7 K7; clear hK6 K6; clear hK5 K5; clear hK4 K4; clear hK3 K3; clear hK2 K2; clear hK1 K1; clear hK0 K0; simp at *; done))
       | (
        refine SW.skip ?_
        refine hK6 _ _ _ ?_
        refine SW.region _ _ _ _ ?_
        first | refine RL.ar ?_ | refine RL.p T ?_
        refine RL.p T ?_
        refine RL.nil _ _ _ _ ?_
        exact ⟨2 - (k + 1), (by omega), k + 1, (by rfl), ⟨by omega, or_step h0 (by omega)⟩, (.cons rfl (.nil (by repeat first | with_reducible exact Mx.refl | with_reducible exact Mx.mix | refine Mx.put rfl ?_ | refine Mx.upd rfl ?_ | refine Mx.updl rfl ?_ | refine Mx.fin rfl ?_ | refine Mx.inner rfl ?_ | refine Mx.none ?_ | exact Mx.refl | exact Mx.mix))), rfl, rfl⟩
        )
     )
  ·skip
   first
    | (exfalso; first | omega | contradiction | (clear hK5 K5; clear hK4 K4; clear hK3 K3; clear hK2 K2; clear hK1 K1; clear hK0 K0; simp at *; done))
    | (
     refine SW.exit ?_
     refine hK2 _ _ _ ?_
     refine SW.seq_k fun K10 hK10 => ?_
     refine SW.region _ _ _ _ ?_
     refine RL.p T ?_
     refine RL.p T ?_
     refine RL.nil _ _ _ _ ?_
     refine hK10 _ _ _ ?_
     refine SW.ret ?_
     refine retQ.rr (H) ?_
     clear hK10 K10 hK5 K5 hK4 K4 hK3 K3 hK2 K2 hK1 K1 hK0 K0
     refine ⟨intE ?_, rfl⟩
     first
       | (rw [or_hit h0 (by omega) (by omega)]; done)
       | (rw [or_end h0 (by omega)]; done)
     )
theorem compareE {w0 : World} {H : List Chunk} (x y : En) : SC Try.prog w0 45 #[EnA x, EnA y] H (fun v H' => v = .int .i64 (cmpE x y) ∧ H' = H) := by
 refine SC.enter Try.func45 rfl (Nat.le_of_ble_eq_true rfl) ?_
 refine SW.seq_k fun K0 hK0 => ?_
 refine SW.region _ _ _ _ ?_
 refine RL.s ?_
 refine NV.box rfl (by exact (rfl : _ = [_, _, _, _, _, _, _, _, _, _, _, _, _])) ?_
 intro b2_0
 refine RL.s ?_
 refine NV.box rfl (by exact (rfl : _ = [_, _, _, _, _, _, _, _, _, _, _, _, _])) ?_
 intro b3_1
 refine RL.p T ?_
 refine RL.nil _ _ _ _ ?_
 refine hK0 _ _ _ ?_
 refine SW.seq_k fun K1 hK1 => ?_
 refine SW.draw [(5, 0), (6, 1), (7, 2), (8, 3), (9, 4), (10, 5), (11, 6), (12, 7), (13, 8), (14, 9), (15, 10), (16, 11), (17, 12), (18, 13), (4, 14)] [[], [0], [], [2], [1, 0, 3, 2], [], [5], [6, 5], [], [8], [9, 8], [7, 6, 5, 10, 9, 8, 4, 1, 0, 3, 2], [4, 1, 0, 3, 2, 11, 7, 6, 5, 10, 9, 8], [12, 4, 1, 0, 3, 2, 11, 7, 6, 5, 10, 9, 8], [13, 12, 4, 1, 0, 3, 2, 11, 7, 6, 5, 10, 9, 8]] mixed (by kernel_rfl) (by kernel_rfl) ?_
 refine RD.p T ?_
 refine RD.q rfl rfl (Gd.none rfl) (QV.v1 T) ?_
 refine RD.p T ?_
 refine RD.q rfl rfl (Gd.none rfl) (QV.v1 T) ?_
 refine RD.p T ?_
 refine RD.p T ?_
 refine RD.q rfl rfl (Gd.none rfl) (QV.v1 T) ?_
 refine RD.p T ?_
 refine RD.p T ?_
 refine RD.q rfl rfl (Gd.none rfl) (QV.v1 T) ?_
 refine RD.nv rfl rfl rfl (Gd.none rfl) ?_
 refine NV.call rfl rfl rfl fun48 rfl rfl (cmp_u64 x.key y.key) ?_
 rintro _ _ ⟨rfl, e⟩; obtain rfl := e.symm
 refine ⟨(Stab.cons rfl (Gd.none rfl) (QV.v1 T) (Stab.cons rfl (Gd.none rfl) (pev_sound T rfl) (Stab.cons rfl (Gd.none rfl) (pev_sound T rfl) (Stab.cons rfl (Gd.none rfl) (QV.v1 T) (Stab.cons rfl (Gd.none rfl) (pev_sound T rfl) (Stab.cons rfl (Gd.none rfl) (pev_sound T rfl) Stab.nil)))))), ?_⟩
 refine RD.nv rfl rfl rfl (Gd.none rfl) ?_
 refine NV.call rfl rfl rfl fun61 rfl rfl (cmp_i64 x.no y.no) ?_
 rintro _ _ ⟨rfl, e⟩; obtain rfl := e.symm
 refine ⟨Stab.nil, ?_⟩
 refine RD.nv rfl rfl rfl (Gd.none rfl) ?_
 refine NV.buildSlice T rfl rfl rfl (Nat.le_of_ble_eq_true rfl) (by exact (rfl : _ = some [_, _])) ?_
 intro b17_2
 refine ⟨Stab.nil, ?_⟩
 refine RD.nv rfl rfl rfl (Gd.none rfl) ?_
 refine NV.sat (fun hs => ?_) (fun c hc => by cases hc)
 refine NV.call rfl rfl rfl fun60 rfl rfl (cmpOr _ _ (cmpI x.key y.key) (cmpI x.no y.no) (Rd.rowh hs (by repeat first | exact At.head _ _ | apply At.tail | apply At.app))) ?_
 rintro _ _ ⟨rfl, e⟩; obtain rfl := e.symm
 refine ⟨Stab.nil, ?_⟩
 refine RD.p T ?_
 refine RD.k rfl rfl ?_
 refine hK1 _ _ _ ?_
 refine SW.ret ?_
 refine retQ.rr (H) ?_
 clear hK1 K1 hK0 K0
 exact ⟨rfl, rfl⟩
end Go.Proofs.Ytjemdjjmpgjieaa.M
