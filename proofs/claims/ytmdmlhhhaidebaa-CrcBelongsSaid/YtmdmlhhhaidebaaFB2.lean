import Derived.Test.YtmdmlhhhaidebaaProg
import Derived.Test.YtmdmlhhhaidebaaFA2
import Derived.Test.YtmdmlhhhaidebaaP1b
set_option linter.unusedVariables false
set_option linter.unusedSimpArgs false
namespace Go.Proofs.Ytmdmlhhhaidebaa.M
open Go Go.Sep Go.Proofs
set_option maxRecDepth 10000
set_option maxHeartbeats 2000000
theorem check1 {w0 : World} {H : List Chunk} (z : Int) : SC Try.prog w0 33 #[.int .u8 z] H (fun v H' => v = .bool (decide (1 < z)) ∧ H' = H) := by
 refine SC.enter Try.func33 rfl (Nat.le_of_ble_eq_true rfl) ?_
 refine SW.seq_k fun K0 hK0 => ?_
 refine SW.region _ _ _ _ ?_
 refine RL.p T ?_
 refine RL.nil _ _ _ _ ?_
 refine hK0 _ _ _ ?_
 refine SW.seq_k fun K1 hK1 => ?_
 refine SW.region _ _ _ _ ?_
 refine RL.p T ?_
 refine RL.p T ?_
 refine RL.p T ?_
 refine RL.nil _ _ _ _ ?_
 refine hK1 _ _ _ ?_
 refine SW.ret ?_
 refine retQ.rr (H) ?_
 clear hK1 K1 hK0 K0
 exact ⟨rfl, rfl⟩
theorem indexBad {w0 : World} {H : List Chunk} (sa : Option Addr) (n c : Nat) (es : List Int) (hR : Rd w0 H sa n c 1 (es.map (.int .u8))) (hn : n = es.length) (hm : n ≤ 140737488351232) : SC Try.prog w0 42 #[.slice sa n c, (.func (.func 33) #[] #[])] H (fun v H' => ∃ z, v = .int .i64 z ∧ H' = H ∧ decide (0 ≤ z) = bad es) := by
 refine SC.enter Try.func42 rfl (Nat.le_of_ble_eq_true rfl) ?_
 refine SW.seq_k fun K0 hK0 => ?_
 refine SW.region _ _ _ _ ?_
 refine RL.p T ?_
 refine RL.nil _ _ _ _ ?_
 refine hK0 _ _ _ ?_
 refine SW.seq_k fun K1 hK1 => ?_
 refine SW.seq_k fun K2 hK2 => ?_
 refine SW.region _ _ _ _ ?_
 refine RL.p T ?_
 refine RL.p T ?_
 refine RL.p T ?_
 refine RL.nil _ _ _ _ ?_
 refine hK2 _ _ _ ?_
 refine SW.block ?_
 refine SW.loopM (fun frB mm fr ds HH => ∃ (k : Nat) , mm = n - k ∧ (k ≤ n ∧ (bad (es.take k) = false)) ∧ FrIs [4, 5, 8, 9, 10, 11, 12, 13, 14, 15, 16, 17, 18] frB fr [(8, .int .i64 k)] ∧ ds = [] ∧ HH = H) (n := n - 0) ?_ ?_
 ·exact ⟨0, rfl, ⟨Nat.zero_le _, rfl⟩, (.cons rfl (.nil (by repeat first | exact Mx.refl | exact Mx.mix | refine Mx.put rfl ?_ | refine Mx.upd rfl ?_ | refine Mx.updl rfl ?_ | refine Mx.fin rfl ?_ | refine Mx.inner rfl ?_ | refine Mx.none ?_))), rfl, rfl⟩
 ·rintro mm fr ds HH ⟨k, rfl, ⟨hk, hb⟩, hFr, rfl, eHH⟩
  obtain rfl := eHH.symm
  obtain ⟨frU, rfl⟩ := hFr.eq
  clear hFr
  refine SW.seq_k fun K3 hK3 => ?_
  refine SW.region _ _ _ _ ?_
  refine RL.p T ?_
  refine RL.nil _ _ _ _ ?_
  refine hK3 _ _ _ ?_
  refine SW.seq_k fun K4 hK4 => ?_
  refine SW.cs (fun hc0 => ?_) (fun hc0 => ?_)
  ·skip
   refine SW.skip ?_
   refine hK4 _ _ _ ?_
   refine SW.seq_k fun K5 hK5 => ?_
   refine SW.block ?_
   refine SW.seq_k fun K6 hK6 => ?_
   refine SW.region _ _ _ _ ?_
   refine RL.p T ?_
   refine RL.p T ?_
   refine RL.nil _ _ _ _ ?_
   refine hK6 _ _ _ ?_
   refine SW.seq_k fun K7 hK7 => ?_
   refine SW.region _ _ _ _ ?_
   refine RL.p T ?_
   refine RL.p T ?_
   refine RL.p T ?_
   refine RL.ix T ?_ (hR := fun hs => hR)
   refine RL.le T ?_ (hR := fun hs => hR)
   refine RL.c fun33 (fun hs => check1 (es.getD k 0)) ?_
   rintro _ _ ⟨rfl, e⟩; obtain rfl := e.symm
   refine RL.nil _ _ _ _ ?_
   refine hK7 _ _ _ ?_
   refine SW.cs (fun hc1 => ?_) (fun hc1 => ?_)
   ·skip
    refine SW.seq_k fun K8 hK8 => ?_
    refine SW.region _ _ _ _ ?_
    refine RL.p T ?_
    refine RL.p T ?_
    refine RL.nil _ _ _ _ ?_
    refine hK8 _ _ _ ?_
    refine SW.ret ?_
    refine retQ.rr (H) ?_
    clear hK8 K8 hK7 K7 hK6 K6 hK5 K5 hK4 K4 hK3 K3 hK2 K2 hK1 K1 hK0 K0
    first
      | exact ⟨_, rfl, rfl, (by rw [bad_get (k := k) (by omega) (by omega)] <;> simp)⟩
      | exact ⟨_, rfl, rfl, (by rw [bad_end (k := k) (by omega) hb]; rfl)⟩
   ·skip
    refine SW.skip ?_
    refine hK5 _ _ _ ?_
    refine SW.region _ _ _ _ ?_
    first | refine RL.ar ?_ | refine RL.p T ?_
    refine RL.p T ?_
    refine RL.nil _ _ _ _ ?_
    exact ⟨n - (k + 1), (by omega), k + 1, (by rfl), ⟨by omega, bad_step (by omega) hb (by omega)⟩, (.cons rfl (.nil (by repeat first | exact Mx.refl | exact Mx.mix | refine Mx.put rfl ?_ | refine Mx.upd rfl ?_ | refine Mx.updl rfl ?_ | refine Mx.fin rfl ?_ | refine Mx.inner rfl ?_ | refine Mx.none ?_))), rfl, rfl⟩
  ·skip
   refine SW.exit ?_
   refine hK1 _ _ _ ?_
   refine SW.seq_k fun K9 hK9 => ?_
   refine SW.region _ _ _ _ ?_
   refine RL.p T ?_
   refine RL.nil _ _ _ _ ?_
   refine hK9 _ _ _ ?_
   refine SW.ret ?_
   refine retQ.rr (H) ?_
   clear hK9 K9 hK4 K4 hK3 K3 hK2 K2 hK1 K1 hK0 K0
   first
     | exact ⟨_, rfl, rfl, (by rw [bad_get (k := k) (by omega) (by omega)] <;> simp)⟩
     | exact ⟨_, rfl, rfl, (by rw [bad_end (k := k) (by omega) hb]; rfl)⟩
theorem hasBad {w0 : World} {H : List Chunk} (sa : Option Addr) (n c : Nat) (es : List Int) (hR : Rd w0 H sa n c 1 (es.map (.int .u8))) (hn : n = es.length) (hm : n ≤ 140737488351232) : SC Try.prog w0 32 #[.slice sa n c, (.func (.func 33) #[] #[])] H (fun v H' => v = .bool (bad es) ∧ H' = H) := by
 refine SC.enter Try.func32 rfl (Nat.le_of_ble_eq_true rfl) ?_
 refine SW.seq_k fun K0 hK0 => ?_
 refine SW.region _ _ _ _ ?_
 refine RL.p T ?_
 refine RL.nil _ _ _ _ ?_
 refine hK0 _ _ _ ?_
 refine SW.seq_k fun K1 hK1 => ?_
 refine SW.region _ _ _ _ ?_
 refine RL.p T ?_
 refine RL.p T ?_
 refine RL.c fun42 (fun hs => indexBad sa n c es hR hn hm) ?_
 rintro _ _ ⟨z, rfl, e, hz⟩; obtain rfl := e.symm
 refine RL.p T ?_
 refine RL.p T ?_
 refine RL.nil _ _ _ _ ?_
 refine hK1 _ _ _ ?_
 refine SW.ret ?_
 refine retQ.rr (H) ?_
 clear hK1 K1 hK0 K0
 refine ⟨boolE ?_, rfl⟩; rw [← hz]
theorem check {w0 : World} {H : List Chunk} (sa : Option Addr) (n c : Nat) (es : List Int) (hR : Rd w0 H sa n c 1 (es.map (.int .u8))) (hn : n = es.length) (hm : n ≤ 140737488351232) : SC Try.prog w0 22 #[.slice sa n c] H (fun v H' => v = .int .i64 (chk es) ∧ H' = H) := by
 refine SC.enter Try.func22 rfl (Nat.le_of_ble_eq_true rfl) ?_
 refine SW.seq_k fun K0 hK0 => ?_
 refine SW.region _ _ _ _ ?_
 refine RL.p T ?_
 refine RL.nil _ _ _ _ ?_
 refine hK0 _ _ _ ?_
 refine SW.seq_k fun K1 hK1 => ?_
 refine SW.seq_k fun K2 hK2 => ?_
 refine SW.region _ _ _ _ ?_
 refine RL.p T ?_
 refine RL.p T ?_
 refine RL.p T ?_
 refine RL.p T ?_
 refine RL.join (fr1 := ?_) 2 6 false [7, 8] (fun hs0 hj => ?_) ?_ ?_
 rotate_left
 ·have hs0j := hs0
  try simp only [decide_eq_true_eq, Bool.not_eq_true', decide_eq_false_iff_not, Bool.not_eq_false', Int.not_lt, Int.not_le, Int.toNat_natCast, Bool.and_eq_true, Bool.or_eq_true, Bool.and_eq_false_iff, Bool.or_eq_false_iff] at hs0
  refine RL.p T ?_
  refine RL.c fun32 (fun hs => hasBad sa n c es hR hn hm) ?_
  rintro _ _ ⟨rfl, e⟩; obtain rfl := e.symm
  exact hj
 ·repeat first | exact Mx.refl | exact Mx.mix | refine Mx.put rfl ?_ | refine Mx.upd rfl ?_ | refine Mx.updl rfl ?_ | refine Mx.fin rfl ?_ | refine Mx.inner rfl ?_ | refine Mx.none ?_
 refine RL.or ?_
 refine RL.nil _ _ _ _ ?_
 refine hK2 _ _ _ ?_
 refine SW.cs (fun hc0 => ?_) (fun hc0 => ?_)
 ·skip
  refine SW.seq_k fun K3 hK3 => ?_
  refine SW.region _ _ _ _ ?_
  refine RL.p T ?_
  refine RL.nil _ _ _ _ ?_
  refine hK3 _ _ _ ?_
  refine SW.ret ?_
  refine retQ.rr (H) ?_
  clear hK3 K3 hK2 K2 hK1 K1 hK0 K0
  refine ⟨intE ?_, rfl⟩; first | (rw [chk, if_pos (hc0.imp (by omega) id)]; done) | (rw [chk_ok (by omega) hc0.2]; done)
 ·skip
  refine SW.skip ?_
  refine hK1 _ _ _ ?_
  refine SW.seq_k fun K4 hK4 => ?_
  refine SW.region _ _ _ _ ?_
  refine RL.p T ?_
  refine RL.nil _ _ _ _ ?_
  refine hK4 _ _ _ ?_
  refine SW.ret ?_
  refine retQ.rr (H) ?_
  clear hK4 K4 hK2 K2 hK1 K1 hK0 K0
  refine ⟨intE ?_, rfl⟩; first | (rw [chk, if_pos (hc0.imp (by omega) id)]; done) | (rw [chk_ok (by omega) hc0.2]; done)
theorem rcheck {w0 : World} {H : List Chunk} (sa : Option Addr) (n c : Nat) (es : List Int) (hR : Rd w0 H sa n c 1 (es.map (.int .u8))) (hn : n = es.length) (hm : n ≤ 140737488351232) : SC Try.prog w0 25 #[.slice sa n c] H (fun v H' => v = .int .i64 (chk es) ∧ H' = H) := by
 refine SC.enter Try.func25 rfl (Nat.le_of_ble_eq_true rfl) ?_
 refine SW.seq_k fun K0 hK0 => ?_
 refine SW.region _ _ _ _ ?_
 refine RL.p T ?_
 refine RL.nil _ _ _ _ ?_
 refine hK0 _ _ _ ?_
 refine SW.seq_k fun K1 hK1 => ?_
 refine SW.seq_k fun K2 hK2 => ?_
 refine SW.region _ _ _ _ ?_
 refine RL.p T ?_
 refine RL.p T ?_
 refine RL.p T ?_
 refine RL.nil _ _ _ _ ?_
 refine hK2 _ _ _ ?_
 refine SW.cs (fun hc0 => ?_) (fun hc0 => ?_)
 ·skip
  refine SW.seq_k fun K3 hK3 => ?_
  refine SW.region _ _ _ _ ?_
  refine RL.p T ?_
  refine RL.nil _ _ _ _ ?_
  refine hK3 _ _ _ ?_
  refine SW.ret ?_
  refine retQ.rr (H) ?_
  clear hK3 K3 hK2 K2 hK1 K1 hK0 K0
  refine ⟨intE ?_, rfl⟩; first | (rw [chk_long (by omega)]; done) | (rw [chk_bad (bad_get (k := k) (by omega) (by omega))]; done) | (rw [chk_ok (by omega) (bad_end (k := k) (by omega) hb)]; done)
 ·skip
  refine SW.skip ?_
  refine hK1 _ _ _ ?_
  refine SW.seq_k fun K4 hK4 => ?_
  refine SW.seq_k fun K5 hK5 => ?_
  refine SW.region _ _ _ _ ?_
  refine RL.p T ?_
  refine RL.p T ?_
  refine RL.p T ?_
  refine RL.nil _ _ _ _ ?_
  refine hK5 _ _ _ ?_
  refine SW.block ?_
  refine SW.loopM (fun frB mm fr ds HH => ∃ (k : Nat) , mm = n - k ∧ (k ≤ n ∧ (bad (es.take k) = false)) ∧ FrIs [2, 4, 10, 11, 12, 13, 14, 15, 16] frB fr [(10, .int .i64 k)] ∧ ds = [] ∧ HH = H) (n := n - 0) ?_ ?_
  ·exact ⟨0, rfl, ⟨Nat.zero_le _, rfl⟩, (.cons rfl (.nil (by repeat first | exact Mx.refl | exact Mx.mix | refine Mx.put rfl ?_ | refine Mx.upd rfl ?_ | refine Mx.updl rfl ?_ | refine Mx.fin rfl ?_ | refine Mx.inner rfl ?_ | refine Mx.none ?_))), rfl, rfl⟩
  ·rintro mm fr ds HH ⟨k, rfl, ⟨hk, hb⟩, hFr, rfl, eHH⟩
   obtain rfl := eHH.symm
   obtain ⟨frU, rfl⟩ := hFr.eq
   clear hFr
   refine SW.seq_k fun K6 hK6 => ?_
   refine SW.region _ _ _ _ ?_
   refine RL.p T ?_
   refine RL.nil _ _ _ _ ?_
   refine hK6 _ _ _ ?_
   refine SW.seq_k fun K7 hK7 => ?_
   refine SW.cs (fun hc1 => ?_) (fun hc1 => ?_)
   ·skip
    refine SW.skip ?_
    refine hK7 _ _ _ ?_
    refine SW.seq_k fun K8 hK8 => ?_
    refine SW.block ?_
    refine SW.seq_k fun K9 hK9 => ?_
    refine SW.region _ _ _ _ ?_
    refine RL.ix T ?_ (hR := fun hs => hR)
    refine RL.le T ?_ (hR := fun hs => hR)
    refine RL.p T ?_
    refine RL.nil _ _ _ _ ?_
    refine hK9 _ _ _ ?_
    refine SW.seq_k fun K10 hK10 => ?_
    refine SW.region _ _ _ _ ?_
    refine RL.p T ?_
    refine RL.p T ?_
    refine RL.nil _ _ _ _ ?_
    refine hK10 _ _ _ ?_
    refine SW.cs (fun hc2 => ?_) (fun hc2 => ?_)
    ·skip
     refine SW.seq_k fun K11 hK11 => ?_
     refine SW.region _ _ _ _ ?_
     refine RL.p T ?_
     refine RL.nil _ _ _ _ ?_
     refine hK11 _ _ _ ?_
     refine SW.ret ?_
     refine retQ.rr (H) ?_
     clear hK11 K11 hK10 K10 hK9 K9 hK8 K8 hK7 K7 hK6 K6 hK5 K5 hK4 K4 hK2 K2 hK1 K1 hK0 K0
     refine ⟨intE ?_, rfl⟩; first | (rw [chk_long (by omega)]; done) | (rw [chk_bad (bad_get (k := k) (by omega) (by omega))]; done) | (rw [chk_ok (by omega) (bad_end (k := k) (by omega) hb)]; done)
    ·skip
     refine SW.skip ?_
     refine hK8 _ _ _ ?_
     refine SW.region _ _ _ _ ?_
     first | refine RL.ar ?_ | refine RL.p T ?_
     refine RL.p T ?_
     refine RL.nil _ _ _ _ ?_
     exact ⟨n - (k + 1), (by omega), k + 1, (by rfl), ⟨by omega, bad_step (by omega) hb (by omega)⟩, (.cons rfl (.nil (by repeat first | exact Mx.refl | exact Mx.mix | refine Mx.put rfl ?_ | refine Mx.upd rfl ?_ | refine Mx.updl rfl ?_ | refine Mx.fin rfl ?_ | refine Mx.inner rfl ?_ | refine Mx.none ?_))), rfl, rfl⟩
   ·skip
    refine SW.exit ?_
    refine hK4 _ _ _ ?_
    refine SW.seq_k fun K12 hK12 => ?_
    refine SW.region _ _ _ _ ?_
    refine RL.p T ?_
    refine RL.nil _ _ _ _ ?_
    refine hK12 _ _ _ ?_
    refine SW.ret ?_
    refine retQ.rr (H) ?_
    clear hK12 K12 hK7 K7 hK6 K6 hK5 K5 hK4 K4 hK2 K2 hK1 K1 hK0 K0
    refine ⟨intE ?_, rfl⟩; first | (rw [chk_long (by omega)]; done) | (rw [chk_bad (bad_get (k := k) (by omega) (by omega))]; done) | (rw [chk_ok (by omega) (bad_end (k := k) (by omega) hb)]; done)
theorem same {w0 : World} {H : List Chunk} (sa sb : Option Addr) (n c nb cb : Nat) (es fs : List Int) (hR : Rd w0 H sa n c 1 (es.map (.int .u8))) (hS : Rd w0 H sb nb cb 1 (fs.map (.int .u8))) (hn : n = es.length) (hm : nb = fs.length) (hm1 : n ≤ 140737488351232) (hm2 : nb ≤ 140737488351232) : SC Try.prog w0 19 #[.slice sa n c, .slice sb nb cb] H (fun v H' => v = .bool (decide (es = fs)) ∧ H' = H) := by
 refine SC.enter Try.func19 rfl (Nat.le_of_ble_eq_true rfl) ?_
 refine SW.seq_k fun K0 hK0 => ?_
 refine SW.region _ _ _ _ ?_
 refine RL.p T ?_
 refine RL.nil _ _ _ _ ?_
 refine hK0 _ _ _ ?_
 refine SW.seq_k fun K1 hK1 => ?_
 refine SW.seq_k fun K2 hK2 => ?_
 refine SW.region _ _ _ _ ?_
 refine RL.p T ?_
 refine RL.p T ?_
 refine RL.p T ?_
 refine RL.p T ?_
 refine RL.p T ?_
 refine RL.nil _ _ _ _ ?_
 refine hK2 _ _ _ ?_
 refine SW.cs (fun hc0 => ?_) (fun hc0 => ?_)
 ·skip
  refine SW.seq_k fun K3 hK3 => ?_
  refine SW.region _ _ _ _ ?_
  refine RL.p T ?_
  refine RL.nil _ _ _ _ ?_
  refine hK3 _ _ _ ?_
  refine SW.ret ?_
  refine retQ.rr (H) ?_
  clear hK3 K3 hK2 K2 hK1 K1 hK0 K0
  refine ⟨boolE ?_, rfl⟩; first | (rw [same_len (by omega)]; done) | (rw [same_ne (k := k) (by omega)]; done) | (rw [same_end (k := k) (by omega) (by omega) hb]; done)
 ·skip
  refine SW.skip ?_
  refine hK1 _ _ _ ?_
  refine SW.seq_k fun K4 hK4 => ?_
  refine SW.seq_k fun K5 hK5 => ?_
  refine SW.region _ _ _ _ ?_
  refine RL.p T ?_
  refine RL.p T ?_
  refine RL.p T ?_
  refine RL.nil _ _ _ _ ?_
  refine hK5 _ _ _ ?_
  refine SW.block ?_
  refine SW.loopM (fun frB mm fr ds HH => ∃ (k : Nat) , mm = n - k ∧ (k ≤ n ∧ (es.take k = fs.take k)) ∧ FrIs [4, 5, 13, 14, 15, 16, 17, 18, 19, 20, 21, 22, 23, 24, 25] frB fr [(13, .int .i64 k)] ∧ ds = [] ∧ HH = H) (n := n - 0) ?_ ?_
  ·exact ⟨0, rfl, ⟨Nat.zero_le _, rfl⟩, (.cons rfl (.nil (by repeat first | exact Mx.refl | exact Mx.mix | refine Mx.put rfl ?_ | refine Mx.upd rfl ?_ | refine Mx.updl rfl ?_ | refine Mx.fin rfl ?_ | refine Mx.inner rfl ?_ | refine Mx.none ?_))), rfl, rfl⟩
  ·rintro mm fr ds HH ⟨k, rfl, ⟨hk, hb⟩, hFr, rfl, eHH⟩
   obtain rfl := eHH.symm
   obtain ⟨frU, rfl⟩ := hFr.eq
   clear hFr
   refine SW.seq_k fun K6 hK6 => ?_
   refine SW.region _ _ _ _ ?_
   refine RL.p T ?_
   refine RL.nil _ _ _ _ ?_
   refine hK6 _ _ _ ?_
   refine SW.seq_k fun K7 hK7 => ?_
   refine SW.cs (fun hc1 => ?_) (fun hc1 => ?_)
   ·skip
    refine SW.skip ?_
    refine hK7 _ _ _ ?_
    refine SW.seq_k fun K8 hK8 => ?_
    refine SW.block ?_
    refine SW.seq_k fun K9 hK9 => ?_
    refine SW.region _ _ _ _ ?_
    refine RL.p T ?_
    refine RL.p T ?_
    refine RL.nil _ _ _ _ ?_
    refine hK9 _ _ _ ?_
    refine SW.seq_k fun K10 hK10 => ?_
    refine SW.drawQ [(16, 0), (17, 1), (18, 2), (19, 3), (20, 4), (21, 5), (22, 6), (23, 7), (24, 8)] [[], [], [0, 1], [2, 0, 1], [], [], [4, 5], [6, 4, 5], [3, 2, 0, 1, 7, 6, 4, 5]] mixed (by kernel_rfl) (by kernel_rfl) ?_
    refine QL.p T ?_
    refine QL.p T ?_
    refine QL.ix T ?_ (hR := fun hs => (by first | exact hR | exact hS))
    refine QL.le T ?_ (hR := fun hs => (by first | exact hR | exact hS))
    refine QL.p T ?_
    refine QL.p T ?_
    refine QL.ix T ?_ (hR := fun hs => (by first | exact hR | exact hS))
    refine QL.le T ?_ (hR := fun hs => (by first | exact hR | exact hS))
    refine QL.p T ?_
    refine QL.nil ?_
    refine hK10 _ _ _ ?_
    refine SW.cs (fun hc2 => ?_) (fun hc2 => ?_)
    ·skip
     refine SW.seq_k fun K11 hK11 => ?_
     refine SW.region _ _ _ _ ?_
     refine RL.p T ?_
     refine RL.nil _ _ _ _ ?_
     refine hK11 _ _ _ ?_
     refine SW.ret ?_
     refine retQ.rr (H) ?_
     clear hK11 K11 hK10 K10 hK9 K9 hK8 K8 hK7 K7 hK6 K6 hK5 K5 hK4 K4 hK2 K2 hK1 K1 hK0 K0
     refine ⟨boolE ?_, rfl⟩; first | (rw [same_len (by omega)]; done) | (rw [same_ne (k := k) (by omega)]; done) | (rw [same_end (k := k) (by omega) (by omega) hb]; done)
    ·skip
     refine SW.skip ?_
     refine hK8 _ _ _ ?_
     refine SW.region _ _ _ _ ?_
     first | refine RL.ar ?_ | refine RL.p T ?_
     refine RL.p T ?_
     refine RL.nil _ _ _ _ ?_
     exact ⟨n - (k + 1), (by omega), k + 1, (by rfl), ⟨by omega, same_step (by omega) (by omega) hb (by omega)⟩, (.cons rfl (.nil (by repeat first | exact Mx.refl | exact Mx.mix | refine Mx.put rfl ?_ | refine Mx.upd rfl ?_ | refine Mx.updl rfl ?_ | refine Mx.fin rfl ?_ | refine Mx.inner rfl ?_ | refine Mx.none ?_))), rfl, rfl⟩
   ·skip
    refine SW.exit ?_
    refine hK4 _ _ _ ?_
    refine SW.seq_k fun K12 hK12 => ?_
    refine SW.region _ _ _ _ ?_
    refine RL.p T ?_
    refine RL.nil _ _ _ _ ?_
    refine hK12 _ _ _ ?_
    refine SW.ret ?_
    refine retQ.rr (H) ?_
    clear hK12 K12 hK7 K7 hK6 K6 hK5 K5 hK4 K4 hK2 K2 hK1 K1 hK0 K0
    refine ⟨boolE ?_, rfl⟩; first | (rw [same_len (by omega)]; done) | (rw [same_ne (k := k) (by omega)]; done) | (rw [same_end (k := k) (by omega) (by omega) hb]; done)
theorem numAdd {w0 : World} {H : List Chunk} (b : Nat) (x z : Int) (h0 : 0 ≤ x) (h1 : x < 9223372036854775808) (z0 : 0 ≤ z) (z1 : z ≤ 1) (kk : Chunk → List Chunk) (hat : At H (.var b 75 [.int .u64 x]) kk) : SC Try.prog w0 41 #[.pointer (some ⟨b, 0, none⟩), .int .u8 z] H (fun v H' => H' = kk (.var b 75 [.int .u64 (2 * x + z)])) := by
 refine SC.enter Try.func41 rfl (Nat.le_of_ble_eq_true rfl) ?_
 refine SW.region _ _ _ _ ?_
 refine RL.p T ?_
 refine RL.p T ?_
 refine RL.p T ?_
 first | refine RL.lv1 T ?_ | refine RL.le T ?_
 refine RL.s ?_
 refine NV.shift rfl rfl rfl (by omega) (.inl ⟨rfl, rfl⟩) ?_
 refine RL.p T ?_
 refine RL.s ?_
 refine NV.convI T rfl rfl rfl rfl (by show (0 : Int) ≤ _; omega) (by show _ ≤ (18446744073709551615 : Int); omega) ?_
 refine RL.s ?_
 refine NV.orShl (x := x) (b := z) rfl rfl rfl (by omega) (by omega) (by omega) (by omega) rfl ?_
 refine RL.p T ?_
 refine RL.s ?_
 first
   | refine NV.store_var1 T rfl rfl rfl rfl (by conv => lhs; whnf) rfl (by repeat first | exact At.head _ _ | assumption | exact At.put (by assumption) _ | apply At.tail | apply At.app) rfl rfl ?_
   | refine NV.store_var T rfl rfl rfl (by exact (rfl : _ = [_])) rfl rfl (by repeat first | exact At.head _ _ | assumption | exact At.put (by assumption) _ | apply At.tail | apply At.app) (Nat.le_of_ble_eq_true rfl) rfl ?_
   | refine NV.store_elem T rfl rfl rfl rfl (by conv => lhs; whnf) rfl (by repeat first | exact At.head _ _ | assumption | exact At.put (by assumption) _ | apply At.tail | apply At.app) (by omega) ?_
 refine RL.nil _ _ _ _ ?_
 try simp only [thenQ, blockQ, Nat.beq_refl, cond_true]
 refine retQ.nn (kk (.var b 75 [.int .u64 (2 * x + z)])) ?_
 rfl
theorem eachAdd {w0 : World} {H : List Chunk} (b : Nat) (x0 : Int) (h0 : 0 ≤ x0) (sa : Option Addr) (n c : Nat) (es : List Int) (hR : Rd w0 H sa n c 1 (es.map (.int .u8))) (hn : n = es.length) (hm : n ≤ 140737488351232) (hx : (x0 + 1) * 2 ^ es.length ≤ 2 ^ 64) (hb : Bit es) : SC Try.prog w0 40 #[.slice sa n c, .func (.func 41) #[.pointer (some ⟨b, 0, none⟩)] #[]] (.var b 75 [.int .u64 x0] :: H) (fun v H' => H' = (.var b 75 [.int .u64 (numS x0 es)] :: H)) := by
 refine SC.enter Try.func40 rfl (Nat.le_of_ble_eq_true rfl) ?_
 refine SW.seq_k fun K0 hK0 => ?_
 refine SW.region _ _ _ _ ?_
 refine RL.p T ?_
 refine RL.p T ?_
 refine RL.p T ?_
 refine RL.nil _ _ _ _ ?_
 refine hK0 _ _ _ ?_
 refine SW.block ?_
 refine SW.loopM (fun frB mm fr ds HH => ∃ (k : Nat) , mm = n - k ∧ (k ≤ n ∧ (True)) ∧ FrIs [5, 8, 9, 10, 11, 12, 13, 14, 15] frB fr [(8, .int .i64 k)] ∧ ds = [] ∧ HH = (.var b 75 [.int .u64 (numS x0 (es.take k))] :: H)) (n := n - 0) ?_ ?_
 ·exact ⟨0, rfl, ⟨Nat.zero_le _, trivial⟩, (.cons rfl (.nil (by repeat first | exact Mx.refl | exact Mx.mix | refine Mx.put rfl ?_ | refine Mx.upd rfl ?_ | refine Mx.updl rfl ?_ | refine Mx.fin rfl ?_ | refine Mx.inner rfl ?_ | refine Mx.none ?_))), rfl, rfl⟩
 ·rintro mm fr ds HH ⟨k, rfl, ⟨hk, _⟩, hFr, rfl, eHH⟩
  obtain rfl := eHH.symm
  obtain ⟨frU, rfl⟩ := hFr.eq
  clear hFr
  have hz := hb k
  refine SW.seq_k fun K1 hK1 => ?_
  refine SW.region _ _ _ _ ?_
  refine RL.p T ?_
  refine RL.nil _ _ _ _ ?_
  refine hK1 _ _ _ ?_
  refine SW.seq_k fun K2 hK2 => ?_
  refine SW.cs (fun hc0 => ?_) (fun hc0 => ?_)
  ·skip
   refine SW.skip ?_
   refine hK2 _ _ _ ?_
   refine SW.seq_k fun K3 hK3 => ?_
   refine SW.block ?_
   refine SW.seq_k fun K4 hK4 => ?_
   refine SW.region _ _ _ _ ?_
   refine RL.ix T ?_ (hR := fun hs => hR.cons)
   refine RL.le T ?_ (hR := fun hs => hR.cons)
   refine RL.p T ?_
   refine RL.nil _ _ _ _ ?_
   refine hK4 _ _ _ ?_
   refine SW.region _ _ _ _ ?_
   refine RL.p T ?_
   refine RL.p T ?_
   refine RL.c fun41 (fun hs => numAdd b (numS x0 (es.take k)) (es.getD k 0) (numS_pos h0 hb) (numS_small h0 hx hb (by omega)) (by omega) (by omega) _ (At.head _ _)) ?_
   rintro _ _ e; obtain rfl := e.symm
   refine RL.nil _ _ _ _ ?_
   refine hK3 _ _ _ ?_
   refine SW.region _ _ _ _ ?_
   first | refine RL.ar ?_ | refine RL.p T ?_
   refine RL.p T ?_
   refine RL.nil _ _ _ _ ?_
   exact ⟨n - (k + 1), (by omega), k + 1, (by rfl), ⟨by omega, trivial⟩, (.cons rfl (.nil (by repeat first | exact Mx.refl | exact Mx.mix | refine Mx.put rfl ?_ | refine Mx.upd rfl ?_ | refine Mx.updl rfl ?_ | refine Mx.fin rfl ?_ | refine Mx.inner rfl ?_ | refine Mx.none ?_))), rfl, (by rw [numS_take (by omega)])⟩
  ·skip
   refine SW.exit ?_
   try simp only [thenQ, blockQ, Nat.beq_refl, cond_true]
   refine retQ.nn ((.var b 75 [.int .u64 (numS x0 (es.take k))] :: H)) ?_
   clear hK2 K2 hK1 K1 hK0 K0
   rw [List.take_of_length_le (by omega)]
theorem get_bad {w0 : World} {H : List Chunk} (sa : Option Addr) (n c : Nat) (es : List Int) (hR : Rd w0 H sa n c 1 (es.map (.int .u8))) (hn : n = es.length) (hm : n ≤ 140737488351232) (hbad : 64 < es.length ∨ chk es ≠ 0) : SC Try.prog w0 30 #[.slice sa n c] H (fun v H' => v = .tuple #[.int .u64 0, .int .i64 2] ∧ H' = H) := by
 refine SC.enter Try.func30 rfl (Nat.le_of_ble_eq_true rfl) ?_
 refine SW.seq_k fun K0 hK0 => ?_
 refine SW.region _ _ _ _ ?_
 refine RL.p T ?_
 refine RL.p T ?_
 refine RL.nil _ _ _ _ ?_
 refine hK0 _ _ _ ?_
 refine SW.seq_k fun K1 hK1 => ?_
 refine SW.seq_k fun K2 hK2 => ?_
 refine SW.region _ _ _ _ ?_
 refine RL.p T ?_
 refine RL.p T ?_
 refine RL.p T ?_
 refine RL.p T ?_
 refine RL.join (fr1 := ?_) 3 8 false [9, 10, 11] (fun hs0 hj => ?_) ?_ ?_
 rotate_left
 ·have hs0j := hs0
  try simp only [decide_eq_true_eq, Bool.not_eq_true', decide_eq_false_iff_not, Bool.not_eq_false', Int.not_lt, Int.not_le, Int.toNat_natCast, Bool.and_eq_true, Bool.or_eq_true, Bool.and_eq_false_iff, Bool.or_eq_false_iff] at hs0
  refine RL.p T ?_
  refine RL.c fun22 (fun hs => check sa n c es hR hn hm) ?_
  rintro _ _ ⟨rfl, e⟩; obtain rfl := e.symm
  refine RL.p T ?_
  exact hj
 ·repeat first | exact Mx.refl | exact Mx.mix | refine Mx.put rfl ?_ | refine Mx.upd rfl ?_ | refine Mx.updl rfl ?_ | refine Mx.fin rfl ?_ | refine Mx.inner rfl ?_ | refine Mx.none ?_
 refine RL.or ?_
 refine RL.nil _ _ _ _ ?_
 refine hK2 _ _ _ ?_
 refine SW.cs (fun hc0 => ?_) (fun hc0 => ?_)
 ·skip
  first
   | (exfalso; clear hK2 K2; clear hK1 K1; clear hK0 K0; first | omega | (simp_all; done) | (simp_all; omega))
   | (
    refine SW.seq_k fun K3 hK3 => ?_
    refine SW.region _ _ _ _ ?_
    refine RL.p T ?_
    refine RL.p T ?_
    refine RL.nil _ _ _ _ ?_
    refine hK3 _ _ _ ?_
    refine SW.ret ?_
    refine retQ.rr (H) ?_
    clear hK3 K3 hK2 K2 hK1 K1 hK0 K0
    exact ⟨rfl, rfl⟩
    )
 ·skip
  exfalso; clear hK2 K2; clear hK1 K1; clear hK0 K0; first | omega | (simp_all; done) | (simp_all; omega)
theorem get_ok {w0 : World} {H : List Chunk} (sa : Option Addr) (n c : Nat) (es : List Int) (hR : Rd w0 H sa n c 1 (es.map (.int .u8))) (hn : n = es.length) (hm : n ≤ 140737488351232) (hl : es.length ≤ 64) (hc : chk es = 0) (hb : Bit es) : SC Try.prog w0 30 #[.slice sa n c] H (fun v H' => v = .tuple #[.int .u64 (numS 0 es), .int .i64 0] ∧ H' = H) := by
 refine SC.enter Try.func30 rfl (Nat.le_of_ble_eq_true rfl) ?_
 refine SW.seq_k fun K0 hK0 => ?_
 refine SW.region _ _ _ _ ?_
 refine RL.p T ?_
 refine RL.p T ?_
 refine RL.nil _ _ _ _ ?_
 refine hK0 _ _ _ ?_
 refine SW.seq_k fun K1 hK1 => ?_
 refine SW.seq_k fun K2 hK2 => ?_
 refine SW.region _ _ _ _ ?_
 refine RL.p T ?_
 refine RL.p T ?_
 refine RL.p T ?_
 refine RL.p T ?_
 refine RL.join (fr1 := ?_) 3 8 false [9, 10, 11] (fun hs0 hj => ?_) ?_ ?_
 rotate_left
 ·have hs0j := hs0
  try simp only [decide_eq_true_eq, Bool.not_eq_true', decide_eq_false_iff_not, Bool.not_eq_false', Int.not_lt, Int.not_le, Int.toNat_natCast, Bool.and_eq_true, Bool.or_eq_true, Bool.and_eq_false_iff, Bool.or_eq_false_iff] at hs0
  refine RL.p T ?_
  refine RL.c fun22 (fun hs => (check sa n c es hR hn hm).mono (fun v H' h => by rw [hc] at h; exact h)) ?_
  rintro _ _ ⟨rfl, e⟩; obtain rfl := e.symm
  refine RL.p T ?_
  exact hj
 ·repeat first | exact Mx.refl | exact Mx.mix | refine Mx.put rfl ?_ | refine Mx.upd rfl ?_ | refine Mx.updl rfl ?_ | refine Mx.fin rfl ?_ | refine Mx.inner rfl ?_ | refine Mx.none ?_
 refine RL.or ?_
 refine RL.nil _ _ _ _ ?_
 refine hK2 _ _ _ ?_
 refine SW.cs (fun hc0 => ?_) (fun hc0 => ?_)
 ·skip
  first
   | (exfalso; clear hK2 K2; clear hK1 K1; clear hK0 K0; first | omega | (simp_all; done) | (simp_all; omega))
   | (
    refine SW.seq_k fun K3 hK3 => ?_
    refine SW.region _ _ _ _ ?_
    refine RL.p T ?_
    refine RL.p T ?_
    refine RL.nil _ _ _ _ ?_
    refine hK3 _ _ _ ?_
    refine SW.ret ?_
    refine retQ.rr (H) ?_
    clear hK3 K3 hK2 K2 hK1 K1 hK0 K0
    exact ⟨rfl, rfl⟩
    )
 ·skip
  first
   | (exfalso; clear hK2 K2; clear hK1 K1; clear hK0 K0; first | omega | (simp_all; done) | (simp_all; omega))
   | (
    refine SW.skip ?_
    refine hK1 _ _ _ ?_
    refine SW.seq_k fun K4 hK4 => ?_
    refine SW.region _ _ _ _ ?_
    refine RL.s ?_
    refine NV.alloc T rfl rfl rfl (by exact (rfl : _ = [_])) ?_
    intro b4_0
    refine RL.nil _ _ _ _ ?_
    refine hK4 _ _ _ ?_
    refine SW.seq_k fun K5 hK5 => ?_
    refine SW.region _ _ _ _ ?_
    refine RL.p T ?_
    refine RL.p T ?_
    refine RL.c fun40 (fun hs => eachAdd _ 0 (by omega) sa n c es hR hn hm (numS_room hl) hb) ?_
    rintro _ _ e; obtain rfl := e.symm
    refine RL.nil _ _ _ _ ?_
    refine hK5 _ _ _ ?_
    refine SW.seq_k fun K6 hK6 => ?_
    refine SW.region _ _ _ _ ?_
    refine RL.lv1 T ?_
    refine RL.p T ?_
    refine RL.p T ?_
    refine RL.nil _ _ _ _ ?_
    refine hK6 _ _ _ ?_
    refine SW.ret ?_
    refine retQ.rr (H) ?_
    clear hK6 K6 hK5 K5 hK4 K4 hK2 K2 hK1 K1 hK0 K0
    exact ⟨rfl, rfl⟩
    )
theorem rowPut {w0 : World} {H : List Chunk} (b : Nat) (z : Int) (size : Nat) (z0 : 0 ≤ z) (z1 : z ≤ 18446744073709551615) (h64 : size ≤ 64) (a : Option Addr) (n c : Nat) (xs : List Int) (hn : n = xs.length) (hm : n ≤ 140737488300000) : SC Try.prog w0 38 #[.pointer (some ⟨b, 0, none⟩), .int .u64 z, .int .i64 size] (.var b 71 [.slice a n c] :: .row a n c 5 1 (xs.map (.int .u8)) :: H) (fun v H' => ∃ a' n' c', n' = n + size ∧ H' = (.var b 71 [.slice a' n' c'] :: .row a' n' c' 5 1 ((xs ++ bitsS z size).map (.int .u8)) :: H)) := by
 refine SC.enter Try.func38 rfl (Nat.le_of_ble_eq_true rfl) ?_
 refine SW.seq_k fun K0 hK0 => ?_
 refine SW.region _ _ _ _ ?_
 refine RL.p T ?_
 first | refine RL.ar ?_ | refine RL.p T ?_
 refine RL.p T ?_
 refine RL.nil _ _ _ _ ?_
 refine hK0 _ _ _ ?_
 refine SW.block ?_
 refine SW.loopM (fun frB mm fr ds HH => ∃ (j : Nat) (a : Option Addr) (m c : Nat) (out : List Int), mm = j + 1 ∧ (j ≤ size ∧ m = out.length ∧ m + j = n + size ∧ out ++ bitsS z j = xs ++ bitsS z size) ∧ FrIs [6, 9, 10, 11, 12, 13, 14, 15, 16, 17, 18, 19, 20, 21, 22, 23, 24, 25, 26] frB fr [(6, .int .i64 (j - 1))] ∧ ds = [] ∧ HH = (.var b 71 [.slice a m c] :: .row a m c 5 1 (out.map (.int .u8)) :: H)) (n := size + 1) ?_ ?_
 ·exact ⟨size, a, n, c, xs, rfl, ⟨Nat.le_refl _, hn, rfl, rfl⟩, (.consI rfl (by first | omega | rfl) (.nil (by repeat first | exact Mx.refl | exact Mx.mix | refine Mx.put rfl ?_ | refine Mx.upd rfl ?_ | refine Mx.updl rfl ?_ | refine Mx.fin rfl ?_ | refine Mx.inner rfl ?_ | refine Mx.none ?_))), rfl, rfl⟩
 ·rintro mm fr ds HH ⟨j, a, m, c, out, rfl, ⟨hj, hl, hmn, hout⟩, hFr, rfl, eHH⟩
  obtain rfl := eHH.symm
  obtain ⟨frU, rfl⟩ := hFr.eq
  clear hFr
  rcases j with _ | j
  ·skip
   refine SW.seq_k fun K1 hK1 => ?_
   refine SW.seq_k fun K2 hK2 => ?_
   refine SW.region _ _ _ _ ?_
   refine RL.p T ?_
   refine RL.p T ?_
   refine RL.nil _ _ _ _ ?_
   refine hK2 _ _ _ ?_
   refine SW.cs (fun hc0 => ?_) (fun hc0 => ?_)
   ·skip
    exfalso; omega
   ·skip
    refine SW.exit ?_
    try simp only [thenQ, blockQ, Nat.beq_refl, cond_true]
    refine retQ.nn ((.var b 71 [.slice a m c] :: .row a m c 5 1 (out.map (.int .u8)) :: H)) ?_
    clear hK2 K2 hK1 K1 hK0 K0
    exact ⟨a, m, c, by omega, by rw [← hout]; simp [bitsS]⟩
  ·skip
   refine SW.seq_k fun K3 hK3 => ?_
   refine SW.seq_k fun K4 hK4 => ?_
   refine SW.region _ _ _ _ ?_
   refine RL.p T ?_
   refine RL.p T ?_
   refine RL.nil _ _ _ _ ?_
   refine hK4 _ _ _ ?_
   refine SW.cs (fun hc1 => ?_) (fun hc1 => ?_)
   ·skip
    refine SW.skip ?_
    refine hK3 _ _ _ ?_
    refine SW.seq_k fun K5 hK5 => ?_
    refine SW.block ?_
    refine SW.draw [(13, 0), (14, 1), (15, 2), (16, 3), (17, 4), (18, 5), (19, 6), (20, 7), (21, 8), (22, 9), (23, 10), (24, 11), (25, 12), (26, 13)] [[], [], [1], [2, 1], [3, 2, 1], [], [], [5, 6], [7, 5, 6], [8, 7, 5, 6], [9, 8, 7, 5, 6], [4, 3, 2, 1, 10, 9, 8, 7, 5, 6], [0, 1, 2, 3, 4, 5, 6, 7, 8, 9, 10, 11], [12, 0, 1, 2, 3, 4, 5, 6, 7, 8, 9, 10, 11], [13, 12, 0, 1, 2, 3, 4, 5, 6, 7, 8, 9, 10, 11]] mixed (by kernel_rfl) (by kernel_rfl) ?_
    refine RD.q rfl rfl (Gd.none rfl) (pev_sound T (by conv => lhs; whnf; arg 1; whnf)) ?_
    refine RD.q rfl rfl (Gd.none rfl) (pev_sound T (by conv => lhs; whnf; arg 1; whnf)) ?_
    refine RD.q rfl rfl (Gd.none rfl) (pev_sound T (by conv => lhs; whnf; arg 1; whnf)) ?_
    refine RD.q rfl rfl (Gd.none rfl) (pev_sound T (by conv => lhs; whnf; arg 1; whnf)) ?_
    refine RD.q rfl rfl (Gd.none rfl) (by first | exact QV.load_var1 T rfl rfl rfl rfl (by repeat first | exact At.head _ _ | assumption | exact At.put (by assumption) _ | apply At.tail | apply At.app) rfl | exact QV.load_varN T rfl rfl rfl rfl rfl (by repeat first | exact At.head _ _ | assumption | exact At.put (by assumption) _ | apply At.tail | apply At.app) (by exact (rfl : _ = [_])) rfl | exact QV.load_elem T rfl rfl rfl rfl (by assumption) (by first | exact map_get _ _ (by omega) | assumption)) ?_
    refine RD.q rfl rfl (Gd.none rfl) (pev_sound T (by conv => lhs; whnf; arg 1; whnf)) ?_
    refine RD.q rfl rfl (Gd.none rfl) (pev_sound T (by conv => lhs; whnf; arg 1; whnf)) ?_
    refine RD.q rfl rfl (Gd.none rfl) (QV.shift rfl rfl rfl (by omega) (.inr ⟨rfl, rfl⟩)) ?_
    refine RD.q rfl rfl (Gd.none rfl) (pev_sound T (by conv => lhs; whnf; arg 1; whnf)) ?_
    refine RD.q rfl rfl (Gd.none rfl) (pev_sound T (by conv => lhs; whnf; arg 1; whnf)) ?_
    refine RD.nv rfl rfl rfl (Gd.none rfl) ?_
    refine NV.build1 T rfl (by conv => lhs; whnf) rfl rfl (by conv => lhs; whnf) (by exact (rfl : _ = some [_])) ?_
    intro b23_0
    refine ⟨(Stab.cons rfl (Gd.none rfl) (by first | exact QV.load_var1 T rfl rfl rfl rfl (by repeat first | exact At.head _ _ | assumption | exact At.put (by assumption) _ | apply At.tail | apply At.app) rfl | exact QV.load_varN T rfl rfl rfl rfl rfl (by repeat first | exact At.head _ _ | assumption | exact At.put (by assumption) _ | apply At.tail | apply At.app) rfl rfl | exact QV.load_elem T rfl rfl rfl rfl (by assumption) (by first | exact map_get _ _ (by omega) | assumption)) (Stab.cons rfl (Gd.none rfl) (pev_sound T rfl) (Stab.cons rfl (Gd.none rfl) (pev_sound T rfl) (Stab.cons rfl (Gd.none rfl) (pev_sound T rfl) (Stab.cons rfl (Gd.none rfl) (pev_sound T rfl) Stab.nil))))), ?_⟩
    refine RD.nv rfl rfl rfl (Gd.none rfl) ?_
    first
      | refine NV.append1 T rfl rfl rfl rfl rfl rfl rfl rfl rfl rfl (by repeat first | exact At.head _ _ | assumption | exact At.put (by assumption) _ | apply At.tail | apply At.app) (ones rfl) (by first | omega | (unfold maxLen; omega)) (by first | omega | (show (_ + _) * 1 ≤ 140737488355328; omega)) ?_
      | refine NV.append T rfl rfl rfl rfl rfl rfl rfl rfl rfl rfl (by repeat first | exact At.head _ _ | assumption | exact At.put (by assumption) _ | apply At.tail | apply At.app) (by assumption) (ones rfl) (by first | omega | (unfold maxLen; omega)) (by first | omega | (show (_ + _) * 1 ≤ 140737488355328; omega)) ?_
    intro a0_ c0_
    refine ⟨(Stab.cons rfl (Gd.none rfl) (pev_sound T rfl) Stab.nil), ?_⟩
    refine RD.q rfl rfl (Gd.none rfl) (pev_sound T (by conv => lhs; whnf; arg 1; whnf)) ?_
    refine RD.q rfl rfl (Gd.none rfl) (pev_sound T (by conv => lhs; whnf; arg 1; whnf)) ?_
    refine RD.nv rfl rfl rfl (Gd.none rfl) ?_
    first
      | refine NV.store_var1 T rfl rfl rfl rfl (by conv => lhs; whnf) rfl (by repeat first | exact At.head _ _ | assumption | exact At.put (by assumption) _ | apply At.tail | apply At.app) rfl rfl ?_
      | refine NV.store_var T rfl rfl rfl (by exact (rfl : _ = [_])) rfl rfl (by repeat first | exact At.head _ _ | assumption | exact At.put (by assumption) _ | apply At.tail | apply At.app) (Nat.le_of_ble_eq_true rfl) rfl ?_
      | refine NV.store_elem T rfl rfl rfl rfl (by conv => lhs; whnf) rfl (by repeat first | exact At.head _ _ | assumption | exact At.put (by assumption) _ | apply At.tail | apply At.app) (by omega) ?_
    refine ⟨Stab.nil, ?_⟩
    refine RD.k rfl rfl ?_
    refine hK5 _ _ _ ?_
    refine SW.region _ _ _ _ ?_
    refine RL.p T ?_
    first | refine RL.ar ?_ | refine RL.p T ?_
    refine RL.p T ?_
    refine RL.nil _ _ _ _ ?_
    exact ⟨j + 1, (by omega), j, a0_, m + 1, c0_, out ++ [(z / 2 ^ j) % 2], (by rfl), ⟨by omega, by simp; omega, by omega, by rw [← hout]; simp [bitsS]⟩, (.consI rfl (by first | omega | rfl) (.nil (by repeat first | exact Mx.refl | exact Mx.mix | refine Mx.put rfl ?_ | refine Mx.upd rfl ?_ | refine Mx.updl rfl ?_ | refine Mx.fin rfl ?_ | refine Mx.inner rfl ?_ | refine Mx.none ?_))), rfl, (by rw [bitE (i := j) z0 z1 (by omega) (by omega)]; simp)⟩
   ·skip
    exfalso; omega
theorem bput_bad {w0 : World} {H : List Chunk} (z s : Int) (z0 : 0 ≤ z) (hbad : s < 0 ∨ 64 < s ∨ 0 < z.fdiv (2 ^ (min s.toNat IntKind.u64.bits))) : SC Try.prog w0 27 #[.int .u64 z, .int .i64 s] H (fun v H' => v = .tuple #[.slice none 0 0, .int .i64 2] ∧ H' = H) := by
 refine SC.enter Try.func27 rfl (Nat.le_of_ble_eq_true rfl) ?_
 refine SW.seq_k fun K0 hK0 => ?_
 refine SW.region _ _ _ _ ?_
 refine RL.p T ?_
 refine RL.p T ?_
 refine RL.nil _ _ _ _ ?_
 refine hK0 _ _ _ ?_
 refine SW.seq_k fun K1 hK1 => ?_
 refine SW.seq_k fun K2 hK2 => ?_
 refine SW.region _ _ _ _ ?_
 refine RL.p T ?_
 refine RL.p T ?_
 refine RL.p T ?_
 refine RL.join (fr1 := ?_) 2 9 false [10, 11] (fun hs0 hj => ?_) ?_ ?_
 rotate_left
 ·have hs0j := hs0
  try simp only [decide_eq_true_eq, Bool.not_eq_true', decide_eq_false_iff_not, Bool.not_eq_false', Int.not_lt, Int.not_le, Int.toNat_natCast, Bool.and_eq_true, Bool.or_eq_true, Bool.and_eq_false_iff, Bool.or_eq_false_iff] at hs0
  refine RL.p T ?_
  refine RL.p T ?_
  exact hj
 ·repeat first | exact Mx.refl | exact Mx.mix | refine Mx.put rfl ?_ | refine Mx.upd rfl ?_ | refine Mx.updl rfl ?_ | refine Mx.fin rfl ?_ | refine Mx.inner rfl ?_ | refine Mx.none ?_
 refine RL.or ?_
 refine RL.p T ?_
 refine RL.join (fr1 := ?_) 4 13 false [14, 15, 16, 17] (fun hs1 hj => ?_) ?_ ?_
 rotate_left
 ·have hs1j := hs1
  try simp only [decide_eq_true_eq, Bool.not_eq_true', decide_eq_false_iff_not, Bool.not_eq_false', Int.not_lt, Int.not_le, Int.toNat_natCast, Bool.and_eq_true, Bool.or_eq_true, Bool.and_eq_false_iff, Bool.or_eq_false_iff] at hs1
  refine RL.p T ?_
  refine RL.p T ?_
  refine RL.s ?_
  refine NV.shift rfl rfl rfl (by omega) (.inr ⟨rfl, rfl⟩) ?_
  refine RL.p T ?_
  exact hj
 ·repeat first | exact Mx.refl | exact Mx.mix | refine Mx.put rfl ?_ | refine Mx.upd rfl ?_ | refine Mx.updl rfl ?_ | refine Mx.fin rfl ?_ | refine Mx.inner rfl ?_ | refine Mx.none ?_
 refine RL.or ?_
 refine RL.nil _ _ _ _ ?_
 refine hK2 _ _ _ ?_
 refine SW.cs (fun hc0 => ?_) (fun hc0 => ?_)
 ·skip
  first
   | (exfalso; clear hK2 K2; clear hK1 K1; clear hK0 K0; first | omega | (simp_all; done) | (simp_all; omega))
   | (
    refine SW.seq_k fun K3 hK3 => ?_
    refine SW.region _ _ _ _ ?_
    refine RL.p T ?_
    refine RL.p T ?_
    refine RL.nil _ _ _ _ ?_
    refine hK3 _ _ _ ?_
    refine SW.ret ?_
    refine retQ.rr (H) ?_
    clear hK3 K3 hK2 K2 hK1 K1 hK0 K0
    exact ⟨rfl, rfl⟩
    )
 ·skip
  exfalso; clear hK2 K2; clear hK1 K1; clear hK0 K0; first | omega | (simp_all; done) | (simp_all; omega)
theorem bput_ok {w0 : World} {H : List Chunk} (z : Int) (s : Nat) (z0 : 0 ≤ z) (z1 : z ≤ 18446744073709551615) (h64 : s ≤ 64) (hz : z.fdiv (2 ^ (min (s : Int).toNat IntKind.u64.bits)) ≤ 0) : SC Try.prog w0 27 #[.int .u64 z, .int .i64 s] H (fun v H' => ∃ a c, v = .tuple #[.slice a s c, .int .i64 0] ∧ H' = .row a s c 5 1 ((bitsS z s).map (.int .u8)) :: H) := by
 refine SC.enter Try.func27 rfl (Nat.le_of_ble_eq_true rfl) ?_
 refine SW.seq_k fun K0 hK0 => ?_
 refine SW.region _ _ _ _ ?_
 refine RL.p T ?_
 refine RL.p T ?_
 refine RL.nil _ _ _ _ ?_
 refine hK0 _ _ _ ?_
 refine SW.seq_k fun K1 hK1 => ?_
 refine SW.seq_k fun K2 hK2 => ?_
 refine SW.region _ _ _ _ ?_
 refine RL.p T ?_
 refine RL.p T ?_
 refine RL.p T ?_
 refine RL.join (fr1 := ?_) 2 9 false [10, 11] (fun hs0 hj => ?_) ?_ ?_
 rotate_left
 ·have hs0j := hs0
  try simp only [decide_eq_true_eq, Bool.not_eq_true', decide_eq_false_iff_not, Bool.not_eq_false', Int.not_lt, Int.not_le, Int.toNat_natCast, Bool.and_eq_true, Bool.or_eq_true, Bool.and_eq_false_iff, Bool.or_eq_false_iff] at hs0
  refine RL.p T ?_
  refine RL.p T ?_
  exact hj
 ·repeat first | exact Mx.refl | exact Mx.mix | refine Mx.put rfl ?_ | refine Mx.upd rfl ?_ | refine Mx.updl rfl ?_ | refine Mx.fin rfl ?_ | refine Mx.inner rfl ?_ | refine Mx.none ?_
 refine RL.or ?_
 refine RL.p T ?_
 refine RL.join (fr1 := ?_) 4 13 false [14, 15, 16, 17] (fun hs1 hj => ?_) ?_ ?_
 rotate_left
 ·have hs1j := hs1
  try simp only [decide_eq_true_eq, Bool.not_eq_true', decide_eq_false_iff_not, Bool.not_eq_false', Int.not_lt, Int.not_le, Int.toNat_natCast, Bool.and_eq_true, Bool.or_eq_true, Bool.and_eq_false_iff, Bool.or_eq_false_iff] at hs1
  refine RL.p T ?_
  refine RL.p T ?_
  refine RL.s ?_
  refine NV.shift rfl rfl rfl (by omega) (.inr ⟨rfl, rfl⟩) ?_
  refine RL.p T ?_
  exact hj
 ·repeat first | exact Mx.refl | exact Mx.mix | refine Mx.put rfl ?_ | refine Mx.upd rfl ?_ | refine Mx.updl rfl ?_ | refine Mx.fin rfl ?_ | refine Mx.inner rfl ?_ | refine Mx.none ?_
 refine RL.or ?_
 refine RL.nil _ _ _ _ ?_
 refine hK2 _ _ _ ?_
 refine SW.cs (fun hc0 => ?_) (fun hc0 => ?_)
 ·skip
  first
   | (exfalso; clear hK2 K2; clear hK1 K1; clear hK0 K0; first | omega | (simp_all; done) | (simp_all; omega))
   | (
    refine SW.seq_k fun K3 hK3 => ?_
    refine SW.region _ _ _ _ ?_
    refine RL.p T ?_
    refine RL.p T ?_
    refine RL.nil _ _ _ _ ?_
    refine hK3 _ _ _ ?_
    refine SW.ret ?_
    refine retQ.rr ((.row ar nr cr 5 1 ((bitsS z s).map (.int .u8)) :: H)) ?_
    clear hK3 K3 hK2 K2 hK1 K1 hK0 K0
    obtain rfl : nr = s := by omega
    exact ⟨_, _, rfl, rfl⟩
    )
 ·skip
  first
   | (exfalso; clear hK2 K2; clear hK1 K1; clear hK0 K0; first | omega | (simp_all; done) | (simp_all; omega))
   | (
    refine SW.skip ?_
    refine hK1 _ _ _ ?_
    refine SW.seq_k fun K4 hK4 => ?_
    refine SW.region _ _ _ _ ?_
    refine RL.s ?_
    refine NV.alloc T rfl rfl rfl (by exact (rfl : _ = [_])) ?_
    intro b6_0
    refine RL.nil _ _ _ _ ?_
    refine hK4 _ _ _ ?_
    refine SW.seq_k fun K5 hK5 => ?_
    refine SW.region _ _ _ _ ?_
    refine RL.p T ?_
    refine RL.p T ?_
    refine RL.c fun38 (fun hs => (SC.swap (rowPut _ z s z0 z1 h64 none 0 0 [] rfl (by omega))).nilrow 5 1) ?_
    rintro _ _ ⟨ar, nr, cr, hnr, e⟩; obtain rfl := e.symm
    refine RL.nil _ _ _ _ ?_
    refine hK5 _ _ _ ?_
    refine SW.seq_k fun K6 hK6 => ?_
    refine SW.region _ _ _ _ ?_
    refine RL.p T ?_
    refine RL.lv1 T ?_
    refine RL.p T ?_
    refine RL.p T ?_
    refine RL.nil _ _ _ _ ?_
    refine hK6 _ _ _ ?_
    refine SW.ret ?_
    refine retQ.rr ((.row ar nr cr 5 1 ((bitsS z s).map (.int .u8)) :: H)) ?_
    clear hK6 K6 hK5 K5 hK4 K4 hK2 K2 hK1 K1 hK0 K0
    obtain rfl : nr = s := by omega
    exact ⟨_, _, rfl, rfl⟩
    )
theorem rnum {w0 : World} {H : List Chunk} (sa : Option Addr) (n c : Nat) (es : List Int) (hR : Rd w0 H sa n c 1 (es.map (.int .u8))) (hn : n = es.length) (hm : n ≤ 140737488351232) (h64 : es.length ≤ 64) (hb : Bit es) : SC Try.prog w0 31 #[.slice sa n c] H (fun v H' => v = .int .u64 (numS 0 es) ∧ H' = H) := by
 refine SC.enter Try.func31 rfl (Nat.le_of_ble_eq_true rfl) ?_
 refine SW.seq_k fun K0 hK0 => ?_
 refine SW.region _ _ _ _ ?_
 refine RL.p T ?_
 refine RL.nil _ _ _ _ ?_
 refine hK0 _ _ _ ?_
 refine SW.seq_k fun K1 hK1 => ?_
 refine SW.region _ _ _ _ ?_
 refine RL.p T ?_
 refine RL.nil _ _ _ _ ?_
 refine hK1 _ _ _ ?_
 refine SW.seq_k fun K2 hK2 => ?_
 refine SW.seq_k fun K3 hK3 => ?_
 refine SW.region _ _ _ _ ?_
 refine RL.p T ?_
 refine RL.p T ?_
 refine RL.p T ?_
 refine RL.nil _ _ _ _ ?_
 refine hK3 _ _ _ ?_
 refine SW.block ?_
 refine SW.loopM (fun frB mm fr ds HH => ∃ (k : Nat) , mm = n - k ∧ (k ≤ n ∧ (True)) ∧ FrIs [3, 5, 8, 9, 10, 11, 12, 13, 14, 15, 16, 17] frB fr [(8, .int .i64 k), (3, .int .u64 (numS 0 (es.take k)))] ∧ ds = [] ∧ HH = H) (n := n - 0) ?_ ?_
 ·exact ⟨0, rfl, ⟨Nat.zero_le _, trivial⟩, (.cons rfl (.consI rfl (by first | omega | rfl) (.nil (by repeat first | exact Mx.refl | exact Mx.mix | refine Mx.put rfl ?_ | refine Mx.upd rfl ?_ | refine Mx.updl rfl ?_ | refine Mx.fin rfl ?_ | refine Mx.inner rfl ?_ | refine Mx.none ?_)))), rfl, rfl⟩
 ·rintro mm fr ds HH ⟨k, rfl, ⟨hk, _⟩, hFr, rfl, eHH⟩
  obtain rfl := eHH.symm
  obtain ⟨frU, rfl⟩ := hFr.eq
  clear hFr
  have hst : k < es.length → _ := numS_take (x := 0) (es := es) (k := k)
  have hz := hb k
  have h0 := numS_pos (x := 0) (k := k) (by omega) hb
  have h1 := fun h => numS_small (x := 0) (k := k) (by omega) (numS_room h64) hb h
  refine SW.seq_k fun K4 hK4 => ?_
  refine SW.region _ _ _ _ ?_
  refine RL.p T ?_
  refine RL.nil _ _ _ _ ?_
  refine hK4 _ _ _ ?_
  refine SW.seq_k fun K5 hK5 => ?_
  refine SW.cs (fun hc0 => ?_) (fun hc0 => ?_)
  ·skip
   refine SW.skip ?_
   refine hK5 _ _ _ ?_
   refine SW.seq_k fun K6 hK6 => ?_
   refine SW.block ?_
   refine SW.seq_k fun K7 hK7 => ?_
   refine SW.region _ _ _ _ ?_
   refine RL.ix T ?_
   refine RL.le T ?_
   refine RL.p T ?_
   refine RL.nil _ _ _ _ ?_
   refine hK7 _ _ _ ?_
   refine SW.region _ _ _ _ ?_
   refine RL.p T ?_
   first | refine RL.arK ?_ | refine RL.p T ?_
   refine RL.p T ?_
   first | refine RL.cv T ?_ | refine RL.p T ?_ | refine RL.ts T ?_
   first | refine RL.arK ?_ | refine RL.p T ?_
   refine RL.p T ?_
   refine RL.nil _ _ _ _ ?_
   refine hK6 _ _ _ ?_
   refine SW.region _ _ _ _ ?_
   first | refine RL.ar ?_ | refine RL.p T ?_
   refine RL.p T ?_
   refine RL.nil _ _ _ _ ?_
   exact ⟨n - (k + 1), (by omega), k + 1, (by rfl), ⟨by omega, trivial⟩, (.cons rfl (.consI rfl (by first | omega | rfl) (.nil (by repeat first | exact Mx.refl | exact Mx.mix | refine Mx.put rfl ?_ | refine Mx.upd rfl ?_ | refine Mx.updl rfl ?_ | refine Mx.fin rfl ?_ | refine Mx.inner rfl ?_ | refine Mx.none ?_)))), rfl, rfl⟩
  ·skip
   refine SW.exit ?_
   refine hK2 _ _ _ ?_
   refine SW.seq_k fun K8 hK8 => ?_
   refine SW.region _ _ _ _ ?_
   refine RL.p T ?_
   refine RL.p T ?_
   refine RL.nil _ _ _ _ ?_
   refine hK8 _ _ _ ?_
   refine SW.ret ?_
   refine retQ.rr (H) ?_
   clear hK8 K8 hK5 K5 hK4 K4 hK3 K3 hK2 K2 hK1 K1 hK0 K0
   refine ⟨?_, rfl⟩; rw [List.take_of_length_le (by omega)]; rfl
theorem rbits {w0 : World} {H : List Chunk} (z : Int) (s : Nat) (h64 : s ≤ 64) (z0 : 0 ≤ z) (z1 : z ≤ 18446744073709551615) : SC Try.prog w0 29 #[.int .u64 z, .int .i64 s] H (fun v H' => ∃ ab cb, v = .slice ab s cb ∧ H' = .row ab s cb 5 1 ((bitsS z s).map (.int .u8)) :: H) := by
 refine SC.enter Try.func29 rfl (Nat.le_of_ble_eq_true rfl) ?_
 refine SW.seq_k fun K0 hK0 => ?_
 refine SW.region _ _ _ _ ?_
 refine RL.p T ?_
 refine RL.nil _ _ _ _ ?_
 refine hK0 _ _ _ ?_
 refine SW.seq_k fun K1 hK1 => ?_
 refine SW.region _ _ _ _ ?_
 refine RL.p T ?_
 refine RL.mk T fun b8_0 => ?_
 refine RL.p T ?_
 refine RL.nil _ _ _ _ ?_
 refine hK1 _ _ _ ?_
 refine SW.seq_k fun K2 hK2 => ?_
 refine SW.seq_k fun K3 hK3 => ?_
 refine SW.region _ _ _ _ ?_
 refine RL.p T ?_
 first | refine RL.ar ?_ | refine RL.p T ?_
 refine RL.p T ?_
 refine RL.nil _ _ _ _ ?_
 refine hK3 _ _ _ ?_
 refine SW.block ?_
 refine SW.loopM (fun frB mm fr ds HH => ∃ (k : Nat) (xs : List Int), mm = s - k ∧ (k ≤ s ∧ xs.length = s ∧ xs.drop (s - k) = bitsS z k) ∧ FrIs [0, 6, 11, 12, 13, 14, 15, 16, 17, 18, 19, 20, 21, 22] frB fr [(0, .int .u64 (z / 2 ^ k)), (6, .int .i64 ((s : Int) - 1 - k))] ∧ ds = [] ∧ HH = (.row (some ⟨b8_0, 0, none⟩) s s 5 1 (xs.map (.int .u8)) :: H)) (n := s - 0) ?_ ?_
 ·exact ⟨0, List.replicate s 0, rfl, ⟨Nat.zero_le _, by simp, by simp [bitsS]⟩, (.consI rfl (by first | omega | rfl) (.consI rfl (by first | omega | rfl) (.nil (by repeat first | exact Mx.refl | exact Mx.mix | refine Mx.put rfl ?_ | refine Mx.upd rfl ?_ | refine Mx.updl rfl ?_ | refine Mx.fin rfl ?_ | refine Mx.inner rfl ?_ | refine Mx.none ?_)))), rfl, (by rw [List.map_replicate])⟩
 ·rintro mm fr ds HH ⟨k, xs, rfl, ⟨hk, hl, hx⟩, hFr, rfl, eHH⟩
  obtain rfl := eHH.symm
  obtain ⟨frU, rfl⟩ := hFr.eq
  clear hFr
  have e2 := half (z := z) (k := k)
  have hp : (0 : Int) < 2 ^ k := Int.pow_pos (by decide)
  have hq0 : 0 ≤ z / 2 ^ k := Int.ediv_nonneg z0 (by omega)
  have hq1 : z / 2 ^ k ≤ z := Int.ediv_le_self _ z0
  refine SW.seq_k fun K4 hK4 => ?_
  refine SW.seq_k fun K5 hK5 => ?_
  refine SW.region _ _ _ _ ?_
  refine RL.p T ?_
  refine RL.p T ?_
  refine RL.nil _ _ _ _ ?_
  refine hK5 _ _ _ ?_
  refine SW.cs (fun hc0 => ?_) (fun hc0 => ?_)
  ·skip
   refine SW.skip ?_
   refine hK4 _ _ _ ?_
   refine SW.seq_k fun K6 hK6 => ?_
   refine SW.block ?_
   refine SW.seq_k fun K7 hK7 => ?_
   refine SW.region _ _ _ _ ?_
   refine RL.p T ?_
   refine RL.p T ?_
   refine RL.p T ?_
   first | refine RL.q (QV.remP rfl rfl rfl (by omega) (by omega)) ?_ | refine RL.q (QV.rem rfl rfl rfl (by omega) rfl) ?_
   first | refine RL.cv T ?_ | refine RL.p T ?_ | refine RL.ts T ?_
   refine RL.ix T ?_
   refine RL.sei T ?_
   refine RL.nil _ _ _ _ ?_
   refine hK7 _ _ _ ?_
   refine SW.region _ _ _ _ ?_
   refine RL.p T ?_
   first | refine RL.q (QV.quoP rfl rfl rfl (by omega) (by omega) (by simp only [hiK]; omega)) ?_ | refine RL.q (QV.quo rfl rfl rfl (by omega) rfl) ?_
   refine RL.p T ?_
   refine RL.nil _ _ _ _ ?_
   refine hK6 _ _ _ ?_
   refine SW.region _ _ _ _ ?_
   refine RL.p T ?_
   first | refine RL.ar ?_ | refine RL.p T ?_
   refine RL.p T ?_
   refine RL.nil _ _ _ _ ?_
   exact ⟨s - (k + 1), (by omega), k + 1, xs.set (s - 1 - k) ((z / 2 ^ k) % 2), (by rfl), ⟨by omega, by simpa using hl, bits_set (by omega) hl hx⟩, (.consI rfl (by first | omega | rfl) (.consI rfl (by first | omega | rfl) (.nil (by repeat first | exact Mx.refl | exact Mx.mix | refine Mx.put rfl ?_ | refine Mx.upd rfl ?_ | refine Mx.updl rfl ?_ | refine Mx.fin rfl ?_ | refine Mx.inner rfl ?_ | refine Mx.none ?_)))), rfl, (by rw [show ((s : Int) - 1 - k).toNat = s - 1 - k by omega])⟩
  ·skip
   refine SW.exit ?_
   refine hK2 _ _ _ ?_
   refine SW.seq_k fun K8 hK8 => ?_
   refine SW.region _ _ _ _ ?_
   refine RL.p T ?_
   refine RL.p T ?_
   refine RL.nil _ _ _ _ ?_
   refine hK8 _ _ _ ?_
   refine SW.ret ?_
   refine retQ.rr _ ?_ (hH := fun w hw => hw)
   clear hK8 K8 hK5 K5 hK4 K4 hK3 K3 hK2 K2 hK1 K1 hK0 K0
   obtain rfl : k = s := by omega
   rw [Nat.sub_self, List.drop_zero] at hx
   rw [hx]
   exact ⟨_, _, rfl, rfl⟩
theorem getC {w0 : World} {H : List Chunk} (sa : Option Addr) (n c : Nat) (es : List Int) (hR : Rd w0 H sa n c 1 (es.map (.int .u8))) (hn : n = es.length) (hm : n ≤ 140737488351232) (hb : Byte es) : SC Try.prog w0 30 #[.slice sa n c] H (fun v H' => v = .tuple #[.int .u64 (getN es).1, .int .i64 (getN es).2] ∧ H' = H) := by
  by_cases h : es.length ≤ 64 ∧ chk es = 0
  · rw [show getN es = (numS 0 es, 0) from if_pos h]; exact get_ok sa n c es hR hn hm h.1 h.2 (chk_bit hb h.2)
  · rw [show getN es = (0, 2) from if_neg h]; exact get_bad sa n c es hR hn hm (by omega)
theorem putC {w0 : World} {H : List Chunk} (z s : Int) (z0 : 0 ≤ z) (z1 : z ≤ 18446744073709551615) : SC Try.prog w0 27 #[.int .u64 z, .int .i64 s] H (RV w0 H (putN z s).1 (putN z s).2) := by
  by_cases h : s < 0 ∨ 64 < s ∨ 0 < z.fdiv (2 ^ (min s.toNat 64))
  · rw [show putN z s = ([], 2) from if_pos h]
    exact (bput_bad z s z0 h).mono (by rintro _ _ ⟨rfl, rfl⟩; exact ⟨_, rfl, Res.nil⟩)
  · rw [show putN z s = (bitsS z s.toNat, 0) from if_neg h]
    obtain ⟨m, rfl⟩ : ∃ m : Nat, s = m := ⟨s.toNat, by omega⟩
    simp only [Int.toNat_natCast] at h ⊢
    refine SC.satR ((bput_ok z m z0 z1 (by omega) (by show z.fdiv (2 ^ (min m 64)) ≤ 0; omega)).mono ?_)
    rintro v _ ⟨a, c, rfl, rfl⟩ hs
    exact ⟨_, rfl, by have := bitsS_length z m; exact Res.row (n := m) hs (At.head _ _) (G := [_]) rfl⟩
theorem chunkF {w0 : World} {H : List Chunk} (sa : Option Addr) (n c m : Nat) (hm : 1 ≤ m) : SC Try.prog w0 35 #[.slice sa n c, .int .i64 m] H (fun v H' => ∃ b1 b2, v = .func (.func 43) #[] #[.pointer (some ⟨b1, 0, none⟩), .pointer (some ⟨b2, 0, none⟩)] ∧ H' = .var b2 3 [.int .i64 m] :: .var b1 23 [.slice sa n c] :: H) := by
 refine SC.enter Try.func35 rfl (Nat.le_of_ble_eq_true rfl) ?_
 refine SW.seq_k fun K0 hK0 => ?_
 refine SW.region _ _ _ _ ?_
 refine RL.s ?_
 refine NV.box rfl (by exact (rfl : _ = [_])) ?_
 intro b2_0
 refine RL.s ?_
 refine NV.box rfl (by exact (rfl : _ = [_])) ?_
 intro b3_1
 refine RL.p T ?_
 refine RL.nil _ _ _ _ ?_
 refine hK0 _ _ _ ?_
 refine SW.seq_k fun K1 hK1 => ?_
 refine SW.seq_k fun K2 hK2 => ?_
 refine SW.region _ _ _ _ ?_
 refine RL.lv1 T ?_
 refine RL.p T ?_
 refine RL.nil _ _ _ _ ?_
 refine hK2 _ _ _ ?_
 refine SW.cs (fun hc0 => ?_) (fun hc0 => ?_)
 ·skip
  exfalso; omega
 ·skip
  first
   | (exfalso; omega)
   | (
    refine SW.skip ?_
    refine hK1 _ _ _ ?_
    refine SW.seq_k fun K3 hK3 => ?_
    refine SW.region _ _ _ _ ?_
    refine RL.p T ?_
    refine RL.p T ?_
    refine RL.nil _ _ _ _ ?_
    refine hK3 _ _ _ ?_
    refine SW.ret ?_
    refine retQ.rr _ ?_ (hH := fun w hw => hw)
    clear hK3 K3 hK2 K2 hK1 K1 hK0 K0
    exact ⟨_, _, rfl, rfl⟩
    )
theorem chunkIter {w0 : World} {H : List Chunk} (L b1 b2 : Nat) (sa : Option Addr) (n c m : Nat) (es : List Int) (hm : n ≤ 140737488351232) (hm1 : 1 ≤ m) (hm2 : m ≤ 65536) {J : Nat → List Chunk → Prop} {X : List Chunk → Prop} (hV : ∀ k HJ, J k HJ → ∃ kk, At HJ (.var b1 23 [.slice sa n c]) kk) (hV2 : ∀ k HJ, J k HJ → ∃ kk, At HJ (.var b2 3 [.int .i64 m]) kk) (hJR : ∀ k HJ, J k HJ → (∃ w, Sat w0 w HJ) → Rd w0 HJ sa n c 1 (es.map (.int .u8))) (hJ0 : J 0 H) (hround : ∀ k h HJ, m * k < n → m * k < h ∧ h ≤ n ∧ (h = n ∨ h = m * k + m) ∧ h ≤ m * k + m → J k HJ → Yld Try.prog w0 none L [.slice (subA sa (m * k) h 1) (h - m * k) (h - m * k)] HJ (fun v H' => ∃ bb, v = .bool bb ∧ (bb = true → J (k + 1) H') ∧ (bb = false → X H'))) : SC Try.prog w0 43 #[.func (.yield L) #[] #[], .pointer (some ⟨b1, 0, none⟩), .pointer (some ⟨b2, 0, none⟩)] H (fun v H' => (∃ k, n ≤ m * k ∧ m * k < n + m ∧ J k H') ∨ X H') := by
 refine SC.enter Try.func43 rfl (Nat.le_of_ble_eq_true rfl) ?_
 refine SW.seq_k fun K0 hK0 => ?_
 obtain ⟨kv0, hat0⟩ := hV 0 H hJ0
 refine SW.region _ _ _ _ ?_
 refine RL.p T ?_
 refine RL.nil _ _ _ _ ?_
 refine hK0 _ _ _ ?_
 refine SW.block ?_
 refine SW.loopM (fun frB mm fr ds HH => ∃ (k l : Nat) (HJ : List Chunk), mm = n + m - l ∧ (l = m * k ∧ m * k < n + m ∧ J k HJ) ∧ FrIs [4, 5, 6, 7, 8, 9, 10, 11, 12, 13, 14, 15, 16, 17, 18, 19, 20, 21, 22, 23, 24, 25, 26, 27, 28, 29, 30] frB fr [(4, .int .i64 l)] ∧ ds = [] ∧ HH = HJ) (n := n + m - 0) ?_ ?_
 ·exact ⟨0, 0, H, rfl, ⟨rfl, by omega, hJ0⟩, (.consI rfl (by first | omega | rfl) (.nil (by repeat first | exact Mx.refl | exact Mx.mix | refine Mx.put rfl ?_ | refine Mx.upd rfl ?_ | refine Mx.updl rfl ?_ | refine Mx.fin rfl ?_ | refine Mx.inner rfl ?_ | refine Mx.none ?_))), rfl, rfl⟩
 ·rintro mm fr ds HH ⟨k, l, HJ, rfl, ⟨rfl, hln, hJ⟩, hFr, rfl, eHH⟩
  obtain rfl := eHH.symm
  obtain ⟨frU, rfl⟩ := hFr.eq
  clear hFr
  obtain ⟨kv, hat⟩ := hV k HJ hJ
  obtain ⟨kv2, hat2⟩ := hV2 k HJ hJ
  have hRk := hJR k HJ hJ
  have hmk : m * (k + 1) = m * k + m := Nat.mul_succ m k
  refine SW.seq_k fun K1 hK1 => ?_
  refine SW.seq_k fun K2 hK2 => ?_
  refine SW.region _ _ _ _ ?_
  refine RL.p T ?_
  first | refine RL.lv1 T ?_ | refine RL.le T ?_
  refine RL.p T ?_
  refine RL.p T ?_
  refine RL.nil _ _ _ _ ?_
  refine hK2 _ _ _ ?_
  refine SW.cs (fun hc0 => ?_) (fun hc0 => ?_)
  ·skip
   refine SW.skip ?_
   refine hK1 _ _ _ ?_
   refine SW.seq_k fun K3 hK3 => ?_
   refine SW.block ?_
   refine SW.seq_k fun K4 hK4 => ?_
   refine SW.drawQ [(13, 0), (14, 1), (15, 2), (16, 3), (17, 4), (18, 5), (5, 6)] [[], [], [], [1, 2], [3, 1, 2], [0, 4, 3, 1, 2], [5, 0, 4, 3, 1, 2]] mixed (by kernel_rfl) (by kernel_rfl) ?_
   first | refine QL.lv1 T ?_ | refine QL.le T ?_
   first | refine QL.lv1 T ?_ | refine QL.le T ?_
   refine QL.p T ?_
   refine QL.sl T ?_ (l1 := m * k)
   refine QL.p T ?_
   refine QL.p T ?_
   refine QL.p T ?_
   refine QL.nil ?_
   refine hK4 _ _ _ ?_
   refine SW.seq_k fun K5 hK5 => ?_
   refine SW.region _ _ _ _ ?_
   refine RL.p T ?_
   first | refine RL.lv1 T ?_ | refine RL.le T ?_
   refine RL.p T ?_
   refine RL.p T ?_
   refine RL.p T ?_
   first | refine RL.ar ?_ | refine RL.p T ?_
   refine RL.p T ?_
   refine RL.p T ?_
   first | refine RL.ar ?_ | refine RL.p T ?_
   refine RL.sl3 T ?_ (l1 := m * k) (h1 := min n (m * k + m)) (m1 := min n (m * k + m))
   refine RL.s ?_
   refine NV.yield ((hround k (min n (m * k + m)) HJ (by omega) (by omega) hJ).mono ?_)
   rintro _ HY ⟨bb, rfl, hY1, hY2⟩
   refine RL.p T ?_
   refine RL.nil _ _ _ _ ?_
   refine hK5 _ _ _ ?_
   refine SW.cs (fun hc1 => ?_) (fun hc1 => ?_)
   ·skip
    refine SW.ret ?_
    refine retQ.rr _ ?_ (hH := fun w hw => hw)
    clear hK5 K5 hK4 K4 hK3 K3 hK2 K2 hK1 K1 hK0 K0
    first
      | exact .inr (hY2 (by first | assumption | simp_all))
      | exact .inl ⟨k, by omega, hln, hJ⟩
   ·skip
    refine SW.skip ?_
    refine hK3 _ _ _ ?_
    obtain ⟨kv3, hat3⟩ := hV2 (k + 1) HY (hY1 (by first | assumption | simp_all))
    refine SW.region _ _ _ _ ?_
    refine RL.p T ?_
    first | refine RL.lv1 T ?_ | refine RL.le T ?_
    first | refine RL.ar ?_ | refine RL.p T ?_
    refine RL.p T ?_
    refine RL.nil _ _ _ _ ?_
    exact ⟨n + m - (m * k + m), (by omega), k + 1, m * k + m, HY, (by rfl), ⟨by omega, by omega, hY1 (by first | assumption | simp_all)⟩, (.consI rfl (by first | omega | rfl) (.nil (by repeat first | exact Mx.refl | exact Mx.mix | refine Mx.put rfl ?_ | refine Mx.upd rfl ?_ | refine Mx.updl rfl ?_ | refine Mx.fin rfl ?_ | refine Mx.inner rfl ?_ | refine Mx.none ?_))), rfl, rfl⟩
  ·skip
   refine SW.exit ?_
   try simp only [thenQ, blockQ, Nat.beq_refl, cond_true]
   refine retQ.nn _ ?_ (hH := fun w hw => hw)
   clear hK2 K2 hK1 K1 hK0 K0
   first
     | exact .inr (hY2 (by first | assumption | simp_all))
     | exact .inl ⟨k, by omega, hln, hJ⟩
end Go.Proofs.Ytmdmlhhhaidebaa.M
