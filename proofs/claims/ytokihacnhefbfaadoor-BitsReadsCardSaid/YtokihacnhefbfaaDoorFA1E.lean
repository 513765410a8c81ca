import Derived.Test.YtokihacnhefbfaaDoorProg
import Derived.Test.YtokihacnhefbfaaDoorS15
import Derived.Test.YtokihacnhefbfaaDoorP1
set_option linter.unusedVariables false
set_option linter.unusedSimpArgs false
namespace Go.Proofs.YtokihacnhefbfaaDoor.M
open Go Go.Sep Go.Proofs
set_option maxRecDepth 10000
set_option maxHeartbeats 2000000
noncomputable def T : Tab Tryd.prog := ⟨Tryd.prog.info?, Tryd.prog.underlying, fun _ _ h => h, fun _ _ h => h⟩
theorem mixed : Tryd.prog.follows .mixedOrders = true := by kernel_rfl
theorem fun5 : Fun Tryd.prog 5 := Fun.mk Tryd.func5 (by kernel_rfl) (by kernel_rfl)
theorem fun14 : Fun Tryd.prog 14 := Fun.mk Tryd.func14 (by kernel_rfl) (by kernel_rfl)
theorem fun13 : Fun Tryd.prog 13 := Fun.mk Tryd.func13 (by kernel_rfl) (by kernel_rfl)
theorem fun10 : Fun Tryd.prog 10 := Fun.mk Tryd.func10 (by kernel_rfl) (by kernel_rfl)
theorem fun11 : Fun Tryd.prog 11 := Fun.mk Tryd.func11 (by kernel_rfl) (by kernel_rfl)
theorem fun19 : Fun Tryd.prog 19 := Fun.mk Tryd.func19 (by kernel_rfl) (by kernel_rfl)
theorem fun6 : Fun Tryd.prog 6 := Fun.mk Tryd.func6 (by kernel_rfl) (by kernel_rfl)
theorem fun26 : Fun Tryd.prog 26 := Fun.mk Tryd.func26 (by kernel_rfl) (by kernel_rfl)
theorem fun25 : Fun Tryd.prog 25 := Fun.mk Tryd.func25 (by kernel_rfl) (by kernel_rfl)
theorem fun15 : Fun Tryd.prog 15 := Fun.mk Tryd.func15 (by kernel_rfl) (by kernel_rfl)
theorem fun22 : Fun Tryd.prog 22 := Fun.mk Tryd.func22 (by kernel_rfl) (by kernel_rfl)
theorem fun23 : Fun Tryd.prog 23 := Fun.mk Tryd.func23 (by kernel_rfl) (by kernel_rfl)
theorem fun16 : Fun Tryd.prog 16 := Fun.mk Tryd.func16 (by kernel_rfl) (by kernel_rfl)
theorem fun17 : Fun Tryd.prog 17 := Fun.mk Tryd.func17 (by kernel_rfl) (by kernel_rfl)
theorem fun18 : Fun Tryd.prog 18 := Fun.mk Tryd.func18 (by kernel_rfl) (by kernel_rfl)
theorem fun38 : Fun Tryd.prog 38 := Fun.mk Tryd.func38 (by kernel_rfl) (by kernel_rfl)
theorem fun36 : Fun Tryd.prog 36 := Fun.mk Tryd.func36 (by kernel_rfl) (by kernel_rfl)
theorem fun27 : Fun Tryd.prog 27 := Fun.mk Tryd.func27 (by kernel_rfl) (by kernel_rfl)
theorem check1 {w0 : World} {H : List Chunk} (z : Int) : SC Tryd.prog w0 23 #[.int .u8 z] H (fun v H' => v = .bool (decide (1 < z)) ∧ H' = H) := by
 refine SC.enter Tryd.func23 rfl (Nat.le_of_ble_eq_true rfl) ?_
 refine SW.seq_k fun K0 hK0 => ?_
 refine SW.region _ _ _ _ ?_
 refine RL.p T ?_
 refine RL.nil _ _ _ _ ?_
 refine hK0 _ _ _ ?_
 refine SW.seq_k fun K1 hK1 => ?_
 refine SW.region _ _ _ _ ?_
 refine RL.p T ?_
 refine RL.p T ?_
 refine RL.p T ?_
 refine RL.nil _ _ _ _ ?_
 refine hK1 _ _ _ ?_
 refine SW.ret ?_
 refine retQ.rr (H) ?_
 clear hK1 K1 hK0 K0
 exact ⟨rfl, rfl⟩
theorem indexBad {w0 : World} {H : List Chunk} (sa : Option Addr) (n c : Nat) (es : List Int) (hR : Rd w0 H sa n c 1 (es.map (.int .u8))) (hn : n = es.length) (hm : n ≤ 140737488351232) : SC Tryd.prog w0 36 #[.slice sa n c, (.func (.func 23) #[] #[])] H (fun v H' => ∃ z, v = .int .i64 z ∧ H' = H ∧ decide (0 ≤ z) = bad es) := by
 refine SC.enter Tryd.func36 rfl (Nat.le_of_ble_eq_true rfl) ?_
 refine SW.seq_k fun K0 hK0 => ?_
 refine SW.region _ _ _ _ ?_
 refine RL.p T ?_
 refine RL.nil _ _ _ _ ?_
 refine hK0 _ _ _ ?_
 refine SW.seq_k fun K1 hK1 => ?_
 refine SW.seq_k fun K2 hK2 => ?_
 refine SW.region _ _ _ _ ?_
 refine RL.p T ?_
 refine RL.p T ?_
 refine RL.p T ?_
 refine RL.nil _ _ _ _ ?_
 refine hK2 _ _ _ ?_
 refine SW.block ?_
 refine SW.loopM (fun frB mm fr ds HH => ∃ (k : Nat) , mm = n - k ∧ (k ≤ n ∧ (bad (es.take k) = false)) ∧ FrIs [4, 5, 8, 9, 10, 11, 12, 13, 14, 15, 16, 17, 18] frB fr [(8, .int .i64 k)] ∧ ds = [] ∧ HH = H) (n := n - 0) ?_ ?_
 ·exact ⟨0, rfl, ⟨Nat.zero_le _, rfl⟩, (.cons rfl (.nil (by repeat first | exact Mx.refl | exact Mx.mix | refine Mx.put rfl ?_ | refine Mx.upd rfl ?_ | refine Mx.updl rfl ?_ | refine Mx.fin rfl ?_ | refine Mx.inner rfl ?_ | refine Mx.none ?_))), rfl, rfl⟩
 ·rintro mm fr ds HH ⟨k, rfl, ⟨hk, hb⟩, hFr, rfl, eHH⟩
  obtain rfl := eHH.symm
  obtain ⟨frU, rfl⟩ := hFr.eq
  clear hFr
  refine SW.seq_k fun K3 hK3 => ?_
  refine SW.region _ _ _ _ ?_
  refine RL.p T ?_
  refine RL.nil _ _ _ _ ?_
  refine hK3 _ _ _ ?_
  refine SW.seq_k fun K4 hK4 => ?_
  refine SW.cs (fun hc0 => ?_) (fun hc0 => ?_)
  ·skip
   refine SW.skip ?_
   refine hK4 _ _ _ ?_
   refine SW.seq_k fun K5 hK5 => ?_
   refine SW.block ?_
   refine SW.seq_k fun K6 hK6 => ?_
   refine SW.region _ _ _ _ ?_
   refine RL.p T ?_
   refine RL.p T ?_
   refine RL.nil _ _ _ _ ?_
   refine hK6 _ _ _ ?_
   refine SW.seq_k fun K7 hK7 => ?_
   refine SW.region _ _ _ _ ?_
   refine RL.p T ?_
   refine RL.p T ?_
   refine RL.p T ?_
   refine RL.ix T ?_ (hR := fun hs => hR)
   refine RL.le T ?_ (hR := fun hs => hR)
   refine RL.c fun23 (fun hs => check1 (es.getD k 0)) ?_
   rintro _ _ ⟨rfl, e⟩; obtain rfl := e.symm
   refine RL.nil _ _ _ _ ?_
   refine hK7 _ _ _ ?_
   refine SW.cs (fun hc1 => ?_) (fun hc1 => ?_)
   ·skip
    refine SW.seq_k fun K8 hK8 => ?_
    refine SW.region _ _ _ _ ?_
    refine RL.p T ?_
    refine RL.p T ?_
    refine RL.nil _ _ _ _ ?_
    refine hK8 _ _ _ ?_
    refine SW.ret ?_
    refine retQ.rr (H) ?_
    clear hK8 K8 hK7 K7 hK6 K6 hK5 K5 hK4 K4 hK3 K3 hK2 K2 hK1 K1 hK0 K0
    first
      | exact ⟨_, rfl, rfl, (by rw [bad_get (k := k) (by omega) (by omega)] <;> simp)⟩
      | exact ⟨_, rfl, rfl, (by rw [bad_end (k := k) (by omega) hb]; rfl)⟩
   ·skip
    refine SW.skip ?_
    refine hK5 _ _ _ ?_
    refine SW.region _ _ _ _ ?_
    first | refine RL.ar ?_ | refine RL.p T ?_
    refine RL.p T ?_
    refine RL.nil _ _ _ _ ?_
    exact ⟨n - (k + 1), (by omega), k + 1, (by rfl), ⟨by omega, bad_step (by omega) hb (by omega)⟩, (.cons rfl (.nil (by repeat first | exact Mx.refl | exact Mx.mix | refine Mx.put rfl ?_ | refine Mx.upd rfl ?_ | refine Mx.updl rfl ?_ | refine Mx.fin rfl ?_ | refine Mx.inner rfl ?_ | refine Mx.none ?_))), rfl, rfl⟩
  ·skip
   refine SW.exit ?_
   refine hK1 _ _ _ ?_
   refine SW.seq_k fun K9 hK9 => ?_
   refine SW.region _ _ _ _ ?_
   refine RL.p T ?_
   refine RL.nil _ _ _ _ ?_
   refine hK9 _ _ _ ?_
   refine SW.ret ?_
   refine retQ.rr (H) ?_
   clear hK9 K9 hK4 K4 hK3 K3 hK2 K2 hK1 K1 hK0 K0
   first
     | exact ⟨_, rfl, rfl, (by rw [bad_get (k := k) (by omega) (by omega)] <;> simp)⟩
     | exact ⟨_, rfl, rfl, (by rw [bad_end (k := k) (by omega) hb]; rfl)⟩
theorem hasBad {w0 : World} {H : List Chunk} (sa : Option Addr) (n c : Nat) (es : List Int) (hR : Rd w0 H sa n c 1 (es.map (.int .u8))) (hn : n = es.length) (hm : n ≤ 140737488351232) : SC Tryd.prog w0 22 #[.slice sa n c, (.func (.func 23) #[] #[])] H (fun v H' => v = .bool (bad es) ∧ H' = H) := by
 refine SC.enter Tryd.func22 rfl (Nat.le_of_ble_eq_true rfl) ?_
 refine SW.seq_k fun K0 hK0 => ?_
 refine SW.region _ _ _ _ ?_
 refine RL.p T ?_
 refine RL.nil _ _ _ _ ?_
 refine hK0 _ _ _ ?_
 refine SW.seq_k fun K1 hK1 => ?_
 refine SW.region _ _ _ _ ?_
 refine RL.p T ?_
 refine RL.p T ?_
 refine RL.c fun36 (fun hs => indexBad sa n c es hR hn hm) ?_
 rintro _ _ ⟨z, rfl, e, hz⟩; obtain rfl := e.symm
 refine RL.p T ?_
 refine RL.p T ?_
 refine RL.nil _ _ _ _ ?_
 refine hK1 _ _ _ ?_
 refine SW.ret ?_
 refine retQ.rr (H) ?_
 clear hK1 K1 hK0 K0
 refine ⟨boolE ?_, rfl⟩; rw [← hz]
theorem check {w0 : World} {H : List Chunk} (sa : Option Addr) (n c : Nat) (es : List Int) (hR : Rd w0 H sa n c 1 (es.map (.int .u8))) (hn : n = es.length) (hm : n ≤ 140737488351232) : SC Tryd.prog w0 11 #[.slice sa n c] H (fun v H' => v = .int .i64 (chk es) ∧ H' = H) := by
 refine SC.enter Tryd.func11 rfl (Nat.le_of_ble_eq_true rfl) ?_
 refine SW.seq_k fun K0 hK0 => ?_
 refine SW.region _ _ _ _ ?_
 refine RL.p T ?_
 refine RL.nil _ _ _ _ ?_
 refine hK0 _ _ _ ?_
 refine SW.seq_k fun K1 hK1 => ?_
 refine SW.seq_k fun K2 hK2 => ?_
 refine SW.region _ _ _ _ ?_
 refine RL.p T ?_
 refine RL.p T ?_
 refine RL.p T ?_
 refine RL.p T ?_
 refine RL.join (fr1 := ?_) 2 6 false [7, 8] (fun hs0 hj => ?_) ?_ ?_
 rotate_left
 ·have hs0j := hs0
  try simp only [decide_eq_true_eq, Bool.not_eq_true', decide_eq_false_iff_not, Bool.not_eq_false', Int.not_lt, Int.not_le, Int.toNat_natCast, Bool.and_eq_true, Bool.or_eq_true, Bool.and_eq_false_iff, Bool.or_eq_false_iff] at hs0
  refine RL.p T ?_
  refine RL.c fun22 (fun hs => hasBad sa n c es hR hn hm) ?_
  rintro _ _ ⟨rfl, e⟩; obtain rfl := e.symm
  exact hj
 ·repeat first | exact Mx.refl | exact Mx.mix | refine Mx.put rfl ?_ | refine Mx.upd rfl ?_ | refine Mx.updl rfl ?_ | refine Mx.fin rfl ?_ | refine Mx.inner rfl ?_ | refine Mx.none ?_
 refine RL.or ?_
 refine RL.nil _ _ _ _ ?_
 refine hK2 _ _ _ ?_
 refine SW.cs (fun hc0 => ?_) (fun hc0 => ?_)
 ·skip
  refine SW.seq_k fun K3 hK3 => ?_
  refine SW.region _ _ _ _ ?_
  refine RL.p T ?_
  refine RL.nil _ _ _ _ ?_
  refine hK3 _ _ _ ?_
  refine SW.ret ?_
  refine retQ.rr (H) ?_
  clear hK3 K3 hK2 K2 hK1 K1 hK0 K0
  refine ⟨intE ?_, rfl⟩; first | (rw [chk, if_pos (hc0.imp (by omega) id)]; done) | (rw [chk_ok (by omega) hc0.2]; done)
 ·skip
  refine SW.skip ?_
  refine hK1 _ _ _ ?_
  refine SW.seq_k fun K4 hK4 => ?_
  refine SW.region _ _ _ _ ?_
  refine RL.p T ?_
  refine RL.nil _ _ _ _ ?_
  refine hK4 _ _ _ ?_
  refine SW.ret ?_
  refine retQ.rr (H) ?_
  clear hK4 K4 hK2 K2 hK1 K1 hK0 K0
  refine ⟨intE ?_, rfl⟩; first | (rw [chk, if_pos (hc0.imp (by omega) id)]; done) | (rw [chk_ok (by omega) hc0.2]; done)
theorem rcheck {w0 : World} {H : List Chunk} (sa : Option Addr) (n c : Nat) (es : List Int) (hR : Rd w0 H sa n c 1 (es.map (.int .u8))) (hn : n = es.length) (hm : n ≤ 140737488351232) : SC Tryd.prog w0 19 #[.slice sa n c] H (fun v H' => v = .int .i64 (chk es) ∧ H' = H) := by
 refine SC.enter Tryd.func19 rfl (Nat.le_of_ble_eq_true rfl) ?_
 refine SW.seq_k fun K0 hK0 => ?_
 refine SW.region _ _ _ _ ?_
 refine RL.p T ?_
 refine RL.nil _ _ _ _ ?_
 refine hK0 _ _ _ ?_
 refine SW.seq_k fun K1 hK1 => ?_
 refine SW.seq_k fun K2 hK2 => ?_
 refine SW.region _ _ _ _ ?_
 refine RL.p T ?_
 refine RL.p T ?_
 refine RL.p T ?_
 refine RL.nil _ _ _ _ ?_
 refine hK2 _ _ _ ?_
 refine SW.cs (fun hc0 => ?_) (fun hc0 => ?_)
 ·skip
  refine SW.seq_k fun K3 hK3 => ?_
  refine SW.region _ _ _ _ ?_
  refine RL.p T ?_
  refine RL.nil _ _ _ _ ?_
  refine hK3 _ _ _ ?_
  refine SW.ret ?_
  refine retQ.rr (H) ?_
  clear hK3 K3 hK2 K2 hK1 K1 hK0 K0
  refine ⟨intE ?_, rfl⟩; first | (rw [chk_long (by omega)]; done) | (rw [chk_bad (bad_get (k := k) (by omega) (by omega))]; done) | (rw [chk_ok (by omega) (bad_end (k := k) (by omega) hb)]; done)
 ·skip
  refine SW.skip ?_
  refine hK1 _ _ _ ?_
  refine SW.seq_k fun K4 hK4 => ?_
  refine SW.seq_k fun K5 hK5 => ?_
  refine SW.region _ _ _ _ ?_
  refine RL.p T ?_
  refine RL.p T ?_
  refine RL.p T ?_
  refine RL.nil _ _ _ _ ?_
  refine hK5 _ _ _ ?_
  refine SW.block ?_
  refine SW.loopM (fun frB mm fr ds HH => ∃ (k : Nat) , mm = n - k ∧ (k ≤ n ∧ (bad (es.take k) = false)) ∧ FrIs [2, 4, 10, 11, 12, 13, 14, 15, 16] frB fr [(10, .int .i64 k)] ∧ ds = [] ∧ HH = H) (n := n - 0) ?_ ?_
  ·exact ⟨0, rfl, ⟨Nat.zero_le _, rfl⟩, (.cons rfl (.nil (by repeat first | exact Mx.refl | exact Mx.mix | refine Mx.put rfl ?_ | refine Mx.upd rfl ?_ | refine Mx.updl rfl ?_ | refine Mx.fin rfl ?_ | refine Mx.inner rfl ?_ | refine Mx.none ?_))), rfl, rfl⟩
  ·rintro mm fr ds HH ⟨k, rfl, ⟨hk, hb⟩, hFr, rfl, eHH⟩
   obtain rfl := eHH.symm
   obtain ⟨frU, rfl⟩ := hFr.eq
   clear hFr
   refine SW.seq_k fun K6 hK6 => ?_
   refine SW.region _ _ _ _ ?_
   refine RL.p T ?_
   refine RL.nil _ _ _ _ ?_
   refine hK6 _ _ _ ?_
   refine SW.seq_k fun K7 hK7 => ?_
   refine SW.cs (fun hc1 => ?_) (fun hc1 => ?_)
   ·skip
    refine SW.skip ?_
    refine hK7 _ _ _ ?_
    refine SW.seq_k fun K8 hK8 => ?_
    refine SW.block ?_
    refine SW.seq_k fun K9 hK9 => ?_
    refine SW.region _ _ _ _ ?_
    refine RL.ix T ?_ (hR := fun hs => hR)
    refine RL.le T ?_ (hR := fun hs => hR)
    refine RL.p T ?_
    refine RL.nil _ _ _ _ ?_
    refine hK9 _ _ _ ?_
    refine SW.seq_k fun K10 hK10 => ?_
    refine SW.region _ _ _ _ ?_
    refine RL.p T ?_
    refine RL.p T ?_
    refine RL.nil _ _ _ _ ?_
    refine hK10 _ _ _ ?_
    refine SW.cs (fun hc2 => ?_) (fun hc2 => ?_)
    ·skip
     refine SW.seq_k fun K11 hK11 => ?_
     refine SW.region _ _ _ _ ?_
     refine RL.p T ?_
     refine RL.nil _ _ _ _ ?_
     refine hK11 _ _ _ ?_
     refine SW.ret ?_
     refine retQ.rr (H) ?_
     clear hK11 K11 hK10 K10 hK9 K9 hK8 K8 hK7 K7 hK6 K6 hK5 K5 hK4 K4 hK2 K2 hK1 K1 hK0 K0
     refine ⟨intE ?_, rfl⟩; first | (rw [chk_long (by omega)]; done) | (rw [chk_bad (bad_get (k := k) (by omega) (by omega))]; done) | (rw [chk_ok (by omega) (bad_end (k := k) (by omega) hb)]; done)
    ·skip
     refine SW.skip ?_
     refine hK8 _ _ _ ?_
     refine SW.region _ _ _ _ ?_
     first | refine RL.ar ?_ | refine RL.p T ?_
     refine RL.p T ?_
     refine RL.nil _ _ _ _ ?_
     exact ⟨n - (k + 1), (by omega), k + 1, (by rfl), ⟨by omega, bad_step (by omega) hb (by omega)⟩, (.cons rfl (.nil (by repeat first | exact Mx.refl | exact Mx.mix | refine Mx.put rfl ?_ | refine Mx.upd rfl ?_ | refine Mx.updl rfl ?_ | refine Mx.fin rfl ?_ | refine Mx.inner rfl ?_ | refine Mx.none ?_))), rfl, rfl⟩
   ·skip
    refine SW.exit ?_
    refine hK4 _ _ _ ?_
    refine SW.seq_k fun K12 hK12 => ?_
    refine SW.region _ _ _ _ ?_
    refine RL.p T ?_
    refine RL.nil _ _ _ _ ?_
    refine hK12 _ _ _ ?_
    refine SW.ret ?_
    refine retQ.rr (H) ?_
    clear hK12 K12 hK7 K7 hK6 K6 hK5 K5 hK4 K4 hK2 K2 hK1 K1 hK0 K0
    refine ⟨intE ?_, rfl⟩; first | (rw [chk_long (by omega)]; done) | (rw [chk_bad (bad_get (k := k) (by omega) (by omega))]; done) | (rw [chk_ok (by omega) (bad_end (k := k) (by omega) hb)]; done)
theorem same {w0 : World} {H : List Chunk} (sa sb : Option Addr) (n c nb cb : Nat) (es fs : List Int) (hR : Rd w0 H sa n c 1 (es.map (.int .u8))) (hS : Rd w0 H sb nb cb 1 (fs.map (.int .u8))) (hn : n = es.length) (hm : nb = fs.length) (hm1 : n ≤ 140737488351232) (hm2 : nb ≤ 140737488351232) : SC Tryd.prog w0 10 #[.slice sa n c, .slice sb nb cb] H (fun v H' => v = .bool (decide (es = fs)) ∧ H' = H) := by
 refine SC.enter Tryd.func10 rfl (Nat.le_of_ble_eq_true rfl) ?_
 refine SW.seq_k fun K0 hK0 => ?_
 refine SW.region _ _ _ _ ?_
 refine RL.p T ?_
 refine RL.nil _ _ _ _ ?_
 refine hK0 _ _ _ ?_
 refine SW.seq_k fun K1 hK1 => ?_
 refine SW.seq_k fun K2 hK2 => ?_
 refine SW.region _ _ _ _ ?_
 refine RL.p T ?_
 refine RL.p T ?_
 refine RL.p T ?_
 refine RL.p T ?_
 refine RL.p T ?_
 refine RL.nil _ _ _ _ ?_
 refine hK2 _ _ _ ?_
 refine SW.cs (fun hc0 => ?_) (fun hc0 => ?_)
 ·skip
  refine SW.seq_k fun K3 hK3 => ?_
  refine SW.region _ _ _ _ ?_
  refine RL.p T ?_
  refine RL.nil _ _ _ _ ?_
  refine hK3 _ _ _ ?_
  refine SW.ret ?_
  refine retQ.rr (H) ?_
  clear hK3 K3 hK2 K2 hK1 K1 hK0 K0
  refine ⟨boolE ?_, rfl⟩; first | (rw [same_len (by omega)]; done) | (rw [same_ne (k := k) (by omega)]; done) | (rw [same_end (k := k) (by omega) (by omega) hb]; done)
 ·skip
  refine SW.skip ?_
  refine hK1 _ _ _ ?_
  refine SW.seq_k fun K4 hK4 => ?_
  refine SW.seq_k fun K5 hK5 => ?_
  refine SW.region _ _ _ _ ?_
  refine RL.p T ?_
  refine RL.p T ?_
  refine RL.p T ?_
  refine RL.nil _ _ _ _ ?_
  refine hK5 _ _ _ ?_
  refine SW.block ?_
  refine SW.loopM (fun frB mm fr ds HH => ∃ (k : Nat) , mm = n - k ∧ (k ≤ n ∧ (es.take k = fs.take k)) ∧ FrIs [4, 5, 13, 14, 15, 16, 17, 18, 19, 20, 21, 22, 23, 24, 25] frB fr [(13, .int .i64 k)] ∧ ds = [] ∧ HH = H) (n := n - 0) ?_ ?_
  ·exact ⟨0, rfl, ⟨Nat.zero_le _, rfl⟩, (.cons rfl (.nil (by repeat first | exact Mx.refl | exact Mx.mix | refine Mx.put rfl ?_ | refine Mx.upd rfl ?_ | refine Mx.updl rfl ?_ | refine Mx.fin rfl ?_ | refine Mx.inner rfl ?_ | refine Mx.none ?_))), rfl, rfl⟩
  ·rintro mm fr ds HH ⟨k, rfl, ⟨hk, hb⟩, hFr, rfl, eHH⟩
   obtain rfl := eHH.symm
   obtain ⟨frU, rfl⟩ := hFr.eq
   clear hFr
   refine SW.seq_k fun K6 hK6 => ?_
   refine SW.region _ _ _ _ ?_
   refine RL.p T ?_
   refine RL.nil _ _ _ _ ?_
   refine hK6 _ _ _ ?_
   refine SW.seq_k fun K7 hK7 => ?_
   refine SW.cs (fun hc1 => ?_) (fun hc1 => ?_)
   ·skip
    refine SW.skip ?_
    refine hK7 _ _ _ ?_
    refine SW.seq_k fun K8 hK8 => ?_
    refine SW.block ?_
    refine SW.seq_k fun K9 hK9 => ?_
    refine SW.region _ _ _ _ ?_
    refine RL.p T ?_
    refine RL.p T ?_
    refine RL.nil _ _ _ _ ?_
    refine hK9 _ _ _ ?_
    refine SW.seq_k fun K10 hK10 => ?_
    refine SW.drawQ [(16, 0), (17, 1), (18, 2), (19, 3), (20, 4), (21, 5), (22, 6), (23, 7), (24, 8)] [[], [], [0, 1], [2, 0, 1], [], [], [4, 5], [6, 4, 5], [3, 2, 0, 1, 7, 6, 4, 5]] mixed (by kernel_rfl) (by kernel_rfl) ?_
    refine QL.p T ?_
    refine QL.p T ?_
    refine QL.ix T ?_ (hR := fun hs => (by first | exact hR | exact hS))
    refine QL.le T ?_ (hR := fun hs => (by first | exact hR | exact hS))
    refine QL.p T ?_
    refine QL.p T ?_
    refine QL.ix T ?_ (hR := fun hs => (by first | exact hR | exact hS))
    refine QL.le T ?_ (hR := fun hs => (by first | exact hR | exact hS))
    refine QL.p T ?_
    refine QL.nil ?_
    refine hK10 _ _ _ ?_
    refine SW.cs (fun hc2 => ?_) (fun hc2 => ?_)
    ·skip
     refine SW.seq_k fun K11 hK11 => ?_
     refine SW.region _ _ _ _ ?_
     refine RL.p T ?_
     refine RL.nil _ _ _ _ ?_
     refine hK11 _ _ _ ?_
     refine SW.ret ?_
     refine retQ.rr (H) ?_
     clear hK11 K11 hK10 K10 hK9 K9 hK8 K8 hK7 K7 hK6 K6 hK5 K5 hK4 K4 hK2 K2 hK1 K1 hK0 K0
     refine ⟨boolE ?_, rfl⟩; first | (rw [same_len (by omega)]; done) | (rw [same_ne (k := k) (by omega)]; done) | (rw [same_end (k := k) (by omega) (by omega) hb]; done)
    ·skip
     refine SW.skip ?_
     refine hK8 _ _ _ ?_
     refine SW.region _ _ _ _ ?_
     first | refine RL.ar ?_ | refine RL.p T ?_
     refine RL.p T ?_
     refine RL.nil _ _ _ _ ?_
     exact ⟨n - (k + 1), (by omega), k + 1, (by rfl), ⟨by omega, same_step (by omega) (by omega) hb (by omega)⟩, (.cons rfl (.nil (by repeat first | exact Mx.refl | exact Mx.mix | refine Mx.put rfl ?_ | refine Mx.upd rfl ?_ | refine Mx.updl rfl ?_ | refine Mx.fin rfl ?_ | refine Mx.inner rfl ?_ | refine Mx.none ?_))), rfl, rfl⟩
   ·skip
    refine SW.exit ?_
    refine hK4 _ _ _ ?_
    refine SW.seq_k fun K12 hK12 => ?_
    refine SW.region _ _ _ _ ?_
    refine RL.p T ?_
    refine RL.nil _ _ _ _ ?_
    refine hK12 _ _ _ ?_
    refine SW.ret ?_
    refine retQ.rr (H) ?_
    clear hK12 K12 hK7 K7 hK6 K6 hK5 K5 hK4 K4 hK2 K2 hK1 K1 hK0 K0
    refine ⟨boolE ?_, rfl⟩; first | (rw [same_len (by omega)]; done) | (rw [same_ne (k := k) (by omega)]; done) | (rw [same_end (k := k) (by omega) (by omega) hb]; done)
theorem backF {w0 : World} {H : List Chunk} (sa : Option Addr) (n c : Nat) : SC Tryd.prog w0 26 #[.slice sa n c] H (fun v H' => ∃ b, v = .func (.func 38) #[] #[.pointer (some ⟨b, 0, none⟩)] ∧ H' = .var b 22 [.slice sa n c] :: H) := by
 refine SC.enter Tryd.func26 rfl (Nat.le_of_ble_eq_true rfl) ?_
 refine SW.seq_k fun K0 hK0 => ?_
 refine SW.region _ _ _ _ ?_
 refine RL.s ?_
 refine NV.box rfl (by exact (rfl : _ = [_])) ?_
 intro b1_0
 refine RL.p T ?_
 refine RL.nil _ _ _ _ ?_
 refine hK0 _ _ _ ?_
 refine SW.seq_k fun K1 hK1 => ?_
 refine SW.region _ _ _ _ ?_
 refine RL.p T ?_
 refine RL.p T ?_
 refine RL.nil _ _ _ _ ?_
 refine hK1 _ _ _ ?_
 refine SW.ret ?_
 refine retQ.rr _ ?_ (hH := fun w hw => hw)
 clear hK1 K1 hK0 K0
 exact ⟨_, rfl, rfl⟩
theorem backIter {w0 : World} {H : List Chunk} (L b : Nat) (sa : Option Addr) (n c : Nat) (es : List Int) (hm : n ≤ 140737488351232) (hn : n = es.length) {J : Nat → List Chunk → Prop} {X : List Chunk → Prop} (hV : ∀ k HJ, J k HJ → ∃ kk, At HJ (.var b 22 [.slice sa n c]) kk) (hJR : ∀ k HJ, J k HJ → (∃ w, Sat w0 w HJ) → Rd w0 HJ sa n c 1 (es.map (.int .u8))) (hJ0 : J 0 H) (hround : ∀ k HJ, k < n → J k HJ → Yld Tryd.prog w0 none L [.int .i64 ((n : Int) - 1 - k), .int .u8 (es.getD ((n : Int) - 1 - k).toNat 0)] HJ (fun v H' => ∃ bb, v = .bool bb ∧ (bb = true → J (k + 1) H') ∧ (bb = false → X H'))) : SC Tryd.prog w0 38 #[.func (.yield L) #[] #[], .pointer (some ⟨b, 0, none⟩)] H (fun v H' => J n H' ∨ X H') := by
 refine SC.enter Tryd.func38 rfl (Nat.le_of_ble_eq_true rfl) ?_
 refine SW.seq_k fun K0 hK0 => ?_
 obtain ⟨kv0, hat0⟩ := hV 0 H hJ0
 refine SW.region _ _ _ _ ?_
 first | refine RL.lv1 T ?_ | refine RL.le T ?_
 refine RL.p T ?_
 first | refine RL.ar ?_ | refine RL.p T ?_
 refine RL.p T ?_
 refine RL.nil _ _ _ _ ?_
 refine hK0 _ _ _ ?_
 refine SW.block ?_
 refine SW.loopM (fun frB mm fr ds HH => ∃ (k : Nat) (HJ : List Chunk), mm = n - k ∧ (k ≤ n ∧ J k HJ) ∧ FrIs [3, 7, 8, 9, 10, 11, 12, 13, 14, 15, 16, 17, 18] frB fr [(3, .int .i64 ((n : Int) - 1 - k))] ∧ ds = [] ∧ HH = HJ) (n := n - 0) ?_ ?_
 ·exact ⟨0, H, rfl, ⟨Nat.zero_le _, hJ0⟩, (.consI rfl (by first | omega | rfl) (.nil (by repeat first | exact Mx.refl | exact Mx.mix | refine Mx.put rfl ?_ | refine Mx.upd rfl ?_ | refine Mx.updl rfl ?_ | refine Mx.fin rfl ?_ | refine Mx.inner rfl ?_ | refine Mx.none ?_))), rfl, rfl⟩
 ·rintro mm fr ds HH ⟨k, HJ, rfl, ⟨hk, hJ⟩, hFr, rfl, eHH⟩
  obtain rfl := eHH.symm
  obtain ⟨frU, rfl⟩ := hFr.eq
  clear hFr
  obtain ⟨kv, hat⟩ := hV k HJ hJ
  have hRk := hJR k HJ hJ
  refine SW.seq_k fun K1 hK1 => ?_
  refine SW.seq_k fun K2 hK2 => ?_
  refine SW.region _ _ _ _ ?_
  refine RL.p T ?_
  refine RL.p T ?_
  refine RL.nil _ _ _ _ ?_
  refine hK2 _ _ _ ?_
  refine SW.cs (fun hc0 => ?_) (fun hc0 => ?_)
  ·skip
   refine SW.skip ?_
   refine hK1 _ _ _ ?_
   refine SW.seq_k fun K3 hK3 => ?_
   refine SW.block ?_
   refine SW.seq_k fun K4 hK4 => ?_
   refine SW.region _ _ _ _ ?_
   refine RL.p T ?_
   refine RL.p T ?_
   first | refine RL.lv1 T ?_ | refine RL.le T ?_
   refine RL.p T ?_
   refine RL.ix T ?_
   refine RL.le T ?_
   refine RL.s ?_
   refine NV.yield ((hround k HJ (by omega) hJ).mono ?_)
   rintro _ HY ⟨bb, rfl, hY1, hY2⟩
   refine RL.p T ?_
   refine RL.nil _ _ _ _ ?_
   refine hK4 _ _ _ ?_
   refine SW.cs (fun hc1 => ?_) (fun hc1 => ?_)
   ·skip
    refine SW.ret ?_
    refine retQ.rr _ ?_ (hH := fun w hw => hw)
    clear hK4 K4 hK3 K3 hK2 K2 hK1 K1 hK0 K0
    first
      | exact .inr (hY2 (by first | assumption | simp_all))
      | (obtain rfl : k = n := by omega
         exact .inl hJ)
   ·skip
    refine SW.skip ?_
    refine hK3 _ _ _ ?_
    refine SW.region _ _ _ _ ?_
    refine RL.p T ?_
    first | refine RL.ar ?_ | refine RL.p T ?_
    refine RL.p T ?_
    refine RL.nil _ _ _ _ ?_
    exact ⟨n - (k + 1), (by omega), k + 1, HY, (by rfl), ⟨by omega, hY1 (by first | assumption | simp_all)⟩, (.consI rfl (by first | omega | rfl) (.nil (by repeat first | exact Mx.refl | exact Mx.mix | refine Mx.put rfl ?_ | refine Mx.upd rfl ?_ | refine Mx.updl rfl ?_ | refine Mx.fin rfl ?_ | refine Mx.inner rfl ?_ | refine Mx.none ?_))), rfl, rfl⟩
  ·skip
   refine SW.exit ?_
   try simp only [thenQ, blockQ, Nat.beq_refl, cond_true]
   refine retQ.nn _ ?_ (hH := fun w hw => hw)
   clear hK2 K2 hK1 K1 hK0 K0
   first
     | exact .inr (hY2 (by first | assumption | simp_all))
     | (obtain rfl : k = n := by omega
        exact .inl hJ)
theorem brun {w0 : World} {H : List Chunk} (sa : Option Addr) (n c : Nat) (es : List Int) (hR : Rd w0 H sa n c 1 (es.map (.int .u8))) (hn : n = es.length) (hm : n ≤ 140737488351232) : SC Tryd.prog w0 14 #[.slice sa n c] H (fun v H' => v = .int .i64 (runV es) ∧ H' = H) := by
 refine SC.enterM Tryd.func14 rfl (Nat.le_of_ble_eq_true rfl) ?_
 refine SW.seq_k fun K0 hK0 => ?_
 refine SW.region _ _ _ _ ?_
 refine RL.p T ?_
 refine RL.nil _ _ _ _ ?_
 refine hK0 _ _ _ ?_
 refine SW.seq_k fun K1 hK1 => ?_
 refine SW.seq_k fun K2 hK2 => ?_
 refine SW.region _ _ _ _ ?_
 refine RL.p T ?_
 refine RL.p T ?_
 refine RL.p T ?_
 refine RL.nil _ _ _ _ ?_
 refine hK2 _ _ _ ?_
 refine SW.cs (fun hc0 => ?_) (fun hc0 => ?_)
 ·skip
  refine SW.seq_k fun K3 hK3 => ?_
  refine SW.region _ _ _ _ ?_
  refine RL.p T ?_
  refine RL.nil _ _ _ _ ?_
  refine hK3 _ _ _ ?_
  refine SW.ret ?_
  skip
  refine Lv.sat fun hs => Lv.nil (H' := H) (RVs.tmp (by conv => lhs; whnf) RVs.nil) (fun w hw => Sat.sub (by repeat first | exact List.Sublist.refl _ | apply List.Sublist.cons_cons | apply List.Sublist.cons | exact List.sublist_append_right _ _ | refine List.Sublist.trans ?_ (List.sublist_append_right _ _)) hw) ?_
  clear hK3 K3 hK2 K2 hK1 K1 hK0 K0
  first
    | exact ⟨intE (runV_nil (by omega)).symm, rfl⟩
    | exact ⟨intE (hI.stop ⟨hk, hn⟩ hne), rfl⟩
    | exact ⟨intE (hI.end (by omega)), rfl⟩
 ·skip
  refine SW.skip ?_
  refine hK1 _ _ _ ?_
  refine SW.seq_k fun K4 hK4 => ?_
  refine SW.region _ _ _ _ ?_
  refine RL.p T ?_
  refine RL.p T ?_
  refine RL.p T ?_
  first | refine RL.ar ?_ | refine RL.p T ?_
  refine RL.ix T ?_
  refine RL.le T ?_ (hv := (map_as (by omega) (lastI_get (by omega) (by omega))))
  refine RL.s ?_
  refine NV.alloc T rfl rfl rfl (by exact (rfl : _ = [_])) ?_
  intro b3_0
  refine RL.sv1 T ?_
  refine RL.nil _ _ _ _ ?_
  refine hK4 _ _ _ ?_
  refine SW.seq_k fun K5 hK5 => ?_
  refine SW.region _ _ _ _ ?_
  refine RL.s ?_
  refine NV.alloc T rfl rfl rfl (by exact (rfl : _ = [_])) ?_
  intro b4_1
  refine RL.sv1 T ?_
  refine RL.nil _ _ _ _ ?_
  refine hK5 _ _ _ ?_
  refine SW.seq_k fun K6 hK6 => ?_
  refine SW.seq_k fun K7 hK7 => ?_
  refine SW.region _ _ _ _ ?_
  refine RL.p T ?_
  refine RL.c fun26 (fun hs => backF sa n c) ?_
  rintro _ _ ⟨bb, rfl, e⟩; obtain rfl := e.symm
  refine RL.nil _ _ _ _ ?_
  refine hK7 _ _ _ ?_
  refine SW.block ?_
  refine SW.rangeF (hfun := fun38) (fun L D LO hY => ?_)
  refine (backIter L bb sa n c es hm hn (hV := fun k HJ ⟨_, e⟩ => by rw [e.2]; exact ⟨_, .tail (.tail (.head _ _))⟩) (hJR := fun k HJ ⟨_, e⟩ hs => by rw [e.2]; exact hR.cons.cons.cons.cons.cons) (J := fun k HJ => ∃ (_ : Unit), (RunI es k) ∧ HJ = LO .ready none :: .obj D (.deferred (some [])) :: (.var bb 22 [.slice sa n c] :: .var b4_1 3 [.int .i64 k] :: .var b3_0 5 [.int .u8 (lastI es)] :: H)) (X := fun HJ => (∃ (k : Nat), (k < n ∧ RunI es k ∧ ¬ es.getD ((n : Int) - 1 - k).toNat 0 = lastI es) ∧ HJ = LO .done (some (.exit 0)) :: .obj D (.deferred (some [])) :: (.var bb 22 [.slice sa n c] :: .var b4_1 3 [.int .i64 k] :: .var b3_0 5 [.int .u8 (lastI es)] :: H))) ?_ (fun k HJ hk hJ => ?_)).mono ?_
  ·exact ⟨(), RunI.start, rfl⟩
  ·obtain ⟨_, hI, rfl⟩ := hJ
   refine hY (At.head _ _) rfl ?_
   refine SW.region _ _ _ _ ?_
   refine RL.p T ?_
   refine RL.nil _ _ _ _ ?_
   refine ⟨_, (by repeat first | exact At.head _ _ | apply At.tail), ?_⟩
   refine SW.block ?_
   refine SW.seq_k fun K8 hK8 => ?_
   refine SW.seq_k fun K9 hK9 => ?_
   refine SW.region _ _ _ _ ?_
   refine RL.p T ?_
   refine RL.lv1 T ?_
   refine RL.p T ?_
   refine RL.nil _ _ _ _ ?_
   refine hK9 _ _ _ ?_
   refine SW.cs (fun hc1 => ?_) (fun hc1 => ?_)
   ·skip
    refine SW.exit ?_
    exact ⟨_, (by repeat first | exact At.head _ _ | apply At.tail), false, rfl, (fun h => by cases h), fun _ => ⟨k, ⟨hk, hI, by assumption⟩, rfl⟩⟩
   ·skip
    refine SW.skip ?_
    refine hK8 _ _ _ ?_
    refine SW.region _ _ _ _ ?_
    refine RL.lv1 T ?_
    first | refine RL.ar ?_ | refine RL.p T ?_
    refine RL.sv1 T ?_
    refine RL.nil _ _ _ _ ?_
    exact ⟨_, (by repeat first | exact At.head _ _ | apply At.tail), true, rfl, fun _ => ⟨(), hI.step ⟨hk, hn⟩ (by assumption), rfl⟩, fun h => by cases h⟩
  ·rintro v HJ (⟨_, hI, rfl⟩ | ⟨k, ⟨hk, hI, hne⟩, rfl⟩)
   ·refine ⟨_, _, none, At.head _ _, (fun h => by cases h), ?_⟩
    refine hK6 _ _ _ ?_
    refine SW.seq_k fun K10 hK10 => ?_
    refine SW.region _ _ _ _ ?_
    refine RL.lv1 T ?_
    refine RL.p T ?_
    refine RL.nil _ _ _ _ ?_
    refine hK10 _ _ _ ?_
    refine SW.ret ?_
    skip
    refine Lv.mark (by repeat first | exact At.head _ _ | assumption | exact At.put (by assumption) _ | apply At.tail | apply At.app) (Lv.sat fun hs => Lv.nil (H' := H) (RVs.tmp (by conv => lhs; whnf) RVs.nil) (fun w hw => Sat.sub (by repeat first | exact List.Sublist.refl _ | apply List.Sublist.cons_cons | apply List.Sublist.cons | exact List.sublist_append_right _ _ | refine List.Sublist.trans ?_ (List.sublist_append_right _ _)) hw) ?_)
    clear hK10 K10 hK7 K7 hK6 K6 hK5 K5 hK4 K4 hK2 K2 hK1 K1 hK0 K0
    first
      | exact ⟨intE (runV_nil (by omega)).symm, rfl⟩
      | exact ⟨intE (hI.stop ⟨hk, hn⟩ hne), rfl⟩
      | exact ⟨intE (hI.end (by omega)), rfl⟩
   ·refine ⟨_, _, some _, At.head _ _, (fun h => by cases h), ?_⟩
    refine SW.exit ?_
    refine hK6 _ _ _ ?_
    refine SW.seq_k fun K11 hK11 => ?_
    refine SW.region _ _ _ _ ?_
    refine RL.lv1 T ?_
    refine RL.p T ?_
    refine RL.nil _ _ _ _ ?_
    refine hK11 _ _ _ ?_
    refine SW.ret ?_
    skip
    refine Lv.mark (by repeat first | exact At.head _ _ | assumption | exact At.put (by assumption) _ | apply At.tail | apply At.app) (Lv.sat fun hs => Lv.nil (H' := H) (RVs.tmp (by conv => lhs; whnf) RVs.nil) (fun w hw => Sat.sub (by repeat first | exact List.Sublist.refl _ | apply List.Sublist.cons_cons | apply List.Sublist.cons | exact List.sublist_append_right _ _ | refine List.Sublist.trans ?_ (List.sublist_append_right _ _)) hw) ?_)
    clear hK11 K11 hK7 K7 hK6 K6 hK5 K5 hK4 K4 hK2 K2 hK1 K1 hK0 K0
    first
      | exact ⟨intE (runV_nil (by omega)).symm, rfl⟩
      | exact ⟨intE (hI.stop ⟨hk, hn⟩ hne), rfl⟩
      | exact ⟨intE (hI.end (by omega)), rfl⟩
theorem rowPut {w0 : World} {H : List Chunk} (b : Nat) (z : Int) (size : Nat) (z0 : 0 ≤ z) (z1 : z ≤ 18446744073709551615) (h64 : size ≤ 64) (a : Option Addr) (n c : Nat) (xs : List Int) (hn : n = xs.length) (hm : n ≤ 140737488300000) : SC Tryd.prog w0 25 #[.pointer (some ⟨b, 0, none⟩), .int .u64 z, .int .i64 size] (.var b 52 [.slice a n c] :: .row a n c 5 1 (xs.map (.int .u8)) :: H) (fun v H' => ∃ a' n' c', n' = n + size ∧ H' = (.var b 52 [.slice a' n' c'] :: .row a' n' c' 5 1 ((xs ++ bitsS z size).map (.int .u8)) :: H)) := by
 refine SC.enter Tryd.func25 rfl (Nat.le_of_ble_eq_true rfl) ?_
 refine SW.seq_k fun K0 hK0 => ?_
 refine SW.region _ _ _ _ ?_
 refine RL.p T ?_
 first | refine RL.ar ?_ | refine RL.p T ?_
 refine RL.p T ?_
 refine RL.nil _ _ _ _ ?_
 refine hK0 _ _ _ ?_
 refine SW.block ?_
 refine SW.loopM (fun frB mm fr ds HH => ∃ (j : Nat) (a : Option Addr) (m c : Nat) (out : List Int), mm = j + 1 ∧ (j ≤ size ∧ m = out.length ∧ m + j = n + size ∧ out ++ bitsS z j = xs ++ bitsS z size) ∧ FrIs [6, 9, 10, 11, 12, 13, 14, 15, 16, 17, 18, 19, 20, 21, 22, 23, 24, 25, 26] frB fr [(6, .int .i64 (j - 1))] ∧ ds = [] ∧ HH = (.var b 52 [.slice a m c] :: .row a m c 5 1 (out.map (.int .u8)) :: H)) (n := size + 1) ?_ ?_
 ·exact ⟨size, a, n, c, xs, rfl, ⟨Nat.le_refl _, hn, rfl, rfl⟩, (.consI rfl (by first | omega | rfl) (.nil (by repeat first | exact Mx.refl | exact Mx.mix | refine Mx.put rfl ?_ | refine Mx.upd rfl ?_ | refine Mx.updl rfl ?_ | refine Mx.fin rfl ?_ | refine Mx.inner rfl ?_ | refine Mx.none ?_))), rfl, rfl⟩
 ·rintro mm fr ds HH ⟨j, a, m, c, out, rfl, ⟨hj, hl, hmn, hout⟩, hFr, rfl, eHH⟩
  obtain rfl := eHH.symm
  obtain ⟨frU, rfl⟩ := hFr.eq
  clear hFr
  rcases j with _ | j
  ·skip
   refine SW.seq_k fun K1 hK1 => ?_
   refine SW.seq_k fun K2 hK2 => ?_
   refine SW.region _ _ _ _ ?_
   refine RL.p T ?_
   refine RL.p T ?_
   refine RL.nil _ _ _ _ ?_
   refine hK2 _ _ _ ?_
   refine SW.cs (fun hc0 => ?_) (fun hc0 => ?_)
   ·skip
    exfalso; omega
   ·skip
    refine SW.exit ?_
    try simp only [thenQ, blockQ, Nat.beq_refl, cond_true]
    refine retQ.nn ((.var b 52 [.slice a m c] :: .row a m c 5 1 (out.map (.int .u8)) :: H)) ?_
    clear hK2 K2 hK1 K1 hK0 K0
    exact ⟨a, m, c, by omega, by rw [← hout]; simp [bitsS]⟩
  ·skip
   refine SW.seq_k fun K3 hK3 => ?_
   refine SW.seq_k fun K4 hK4 => ?_
   refine SW.region _ _ _ _ ?_
   refine RL.p T ?_
   refine RL.p T ?_
   refine RL.nil _ _ _ _ ?_
   refine hK4 _ _ _ ?_
   refine SW.cs (fun hc1 => ?_) (fun hc1 => ?_)
   ·skip
    refine SW.skip ?_
    refine hK3 _ _ _ ?_
    refine SW.seq_k fun K5 hK5 => ?_
    refine SW.block ?_
    refine SW.draw [(13, 0), (14, 1), (15, 2), (16, 3), (17, 4), (18, 5), (19, 6), (20, 7), (21, 8), (22, 9), (23, 10), (24, 11), (25, 12), (26, 13)] [[], [], [1], [2, 1], [3, 2, 1], [], [], [5, 6], [7, 5, 6], [8, 7, 5, 6], [9, 8, 7, 5, 6], [4, 3, 2, 1, 10, 9, 8, 7, 5, 6], [0, 1, 2, 3, 4, 5, 6, 7, 8, 9, 10, 11], [12, 0, 1, 2, 3, 4, 5, 6, 7, 8, 9, 10, 11], [13, 12, 0, 1, 2, 3, 4, 5, 6, 7, 8, 9, 10, 11]] mixed (by kernel_rfl) (by kernel_rfl) ?_
    refine RD.q rfl rfl (Gd.none rfl) (pev_sound T (by conv => lhs; whnf; arg 1; whnf)) ?_
    refine RD.q rfl rfl (Gd.none rfl) (pev_sound T (by conv => lhs; whnf; arg 1; whnf)) ?_
    refine RD.q rfl rfl (Gd.none rfl) (pev_sound T (by conv => lhs; whnf; arg 1; whnf)) ?_
    refine RD.q rfl rfl (Gd.none rfl) (pev_sound T (by conv => lhs; whnf; arg 1; whnf)) ?_
    refine RD.q rfl rfl (Gd.none rfl) (by first | exact QV.load_var1 T rfl rfl rfl rfl (by repeat first | exact At.head _ _ | assumption | exact At.put (by assumption) _ | apply At.tail | apply At.app) rfl | exact QV.load_varN T rfl rfl rfl rfl rfl (by repeat first | exact At.head _ _ | assumption | exact At.put (by assumption) _ | apply At.tail | apply At.app) (by exact (rfl : _ = [_])) rfl | exact QV.load_elem T rfl rfl rfl rfl (by assumption) (by first | exact map_get _ _ (by omega) | assumption)) ?_
    refine RD.q rfl rfl (Gd.none rfl) (pev_sound T (by conv => lhs; whnf; arg 1; whnf)) ?_
    refine RD.q rfl rfl (Gd.none rfl) (pev_sound T (by conv => lhs; whnf; arg 1; whnf)) ?_
    refine RD.q rfl rfl (Gd.none rfl) (QV.shift rfl rfl rfl (by omega) (.inr ⟨rfl, rfl⟩)) ?_
    refine RD.q rfl rfl (Gd.none rfl) (pev_sound T (by conv => lhs; whnf; arg 1; whnf)) ?_
    refine RD.q rfl rfl (Gd.none rfl) (pev_sound T (by conv => lhs; whnf; arg 1; whnf)) ?_
    refine RD.nv rfl rfl rfl (Gd.none rfl) ?_
    refine NV.build1 T rfl (by conv => lhs; whnf) rfl rfl (by conv => lhs; whnf) (by exact (rfl : _ = some [_])) ?_
    intro b23_0
    refine ⟨(Stab.cons rfl (Gd.none rfl) (by first | exact QV.load_var1 T rfl rfl rfl rfl (by repeat first | exact At.head _ _ | assumption | exact At.put (by assumption) _ | apply At.tail | apply At.app) rfl | exact QV.load_varN T rfl rfl rfl rfl rfl (by repeat first | exact At.head _ _ | assumption | exact At.put (by assumption) _ | apply At.tail | apply At.app) rfl rfl | exact QV.load_elem T rfl rfl rfl rfl (by assumption) (by first | exact map_get _ _ (by omega) | assumption)) (Stab.cons rfl (Gd.none rfl) (pev_sound T rfl) (Stab.cons rfl (Gd.none rfl) (pev_sound T rfl) (Stab.cons rfl (Gd.none rfl) (pev_sound T rfl) (Stab.cons rfl (Gd.none rfl) (pev_sound T rfl) Stab.nil))))), ?_⟩
    refine RD.nv rfl rfl rfl (Gd.none rfl) ?_
    first
      | refine NV.append1 T rfl rfl rfl rfl rfl rfl rfl rfl rfl rfl (by repeat first | exact At.head _ _ | assumption | exact At.put (by assumption) _ | apply At.tail | apply At.app) (ones rfl) (by first | omega | (unfold maxLen; omega)) (by first | omega | (show (_ + _) * 1 ≤ 140737488355328; omega)) ?_
      | refine NV.append T rfl rfl rfl rfl rfl rfl rfl rfl rfl rfl (by repeat first | exact At.head _ _ | assumption | exact At.put (by assumption) _ | apply At.tail | apply At.app) (by assumption) (ones rfl) (by first | omega | (unfold maxLen; omega)) (by first | omega | (show (_ + _) * 1 ≤ 140737488355328; omega)) ?_
    intro a0_ c0_
    refine ⟨(Stab.cons rfl (Gd.none rfl) (pev_sound T rfl) Stab.nil), ?_⟩
    refine RD.q rfl rfl (Gd.none rfl) (pev_sound T (by conv => lhs; whnf; arg 1; whnf)) ?_
    refine RD.q rfl rfl (Gd.none rfl) (pev_sound T (by conv => lhs; whnf; arg 1; whnf)) ?_
    refine RD.nv rfl rfl rfl (Gd.none rfl) ?_
    first
      | refine NV.store_var1 T rfl rfl rfl rfl (by conv => lhs; whnf) rfl (by repeat first | exact At.head _ _ | assumption | exact At.put (by assumption) _ | apply At.tail | apply At.app) rfl rfl ?_
      | refine NV.store_var T rfl rfl rfl (by exact (rfl : _ = [_])) rfl rfl (by repeat first | exact At.head _ _ | assumption | exact At.put (by assumption) _ | apply At.tail | apply At.app) (Nat.le_of_ble_eq_true rfl) rfl ?_
      | refine NV.store_elem T rfl rfl rfl rfl (by conv => lhs; whnf) rfl (by repeat first | exact At.head _ _ | assumption | exact At.put (by assumption) _ | apply At.tail | apply At.app) (by omega) ?_
    refine ⟨Stab.nil, ?_⟩
    refine RD.k rfl rfl ?_
    refine hK5 _ _ _ ?_
    refine SW.region _ _ _ _ ?_
    refine RL.p T ?_
    first | refine RL.ar ?_ | refine RL.p T ?_
    refine RL.p T ?_
    refine RL.nil _ _ _ _ ?_
    exact ⟨j + 1, (by omega), j, a0_, m + 1, c0_, out ++ [(z / 2 ^ j) % 2], (by rfl), ⟨by omega, by simp; omega, by omega, by rw [← hout]; simp [bitsS]⟩, (.consI rfl (by first | omega | rfl) (.nil (by repeat first | exact Mx.refl | exact Mx.mix | refine Mx.put rfl ?_ | refine Mx.upd rfl ?_ | refine Mx.updl rfl ?_ | refine Mx.fin rfl ?_ | refine Mx.inner rfl ?_ | refine Mx.none ?_))), rfl, (by rw [bitE (i := j) z0 z1 (by omega) (by omega)]; simp)⟩
   ·skip
    exfalso; omega
theorem bput_bad {w0 : World} {H : List Chunk} (z s : Int) (z0 : 0 ≤ z) (hbad : s < 0 ∨ 64 < s ∨ 0 < z.fdiv (2 ^ (min s.toNat IntKind.u64.bits))) : SC Tryd.prog w0 13 #[.int .u64 z, .int .i64 s] H (fun v H' => v = .tuple #[.slice none 0 0, .int .i64 2] ∧ H' = H) := by
 refine SC.enter Tryd.func13 rfl (Nat.le_of_ble_eq_true rfl) ?_
 refine SW.seq_k fun K0 hK0 => ?_
 refine SW.region _ _ _ _ ?_
 refine RL.p T ?_
 refine RL.p T ?_
 refine RL.nil _ _ _ _ ?_
 refine hK0 _ _ _ ?_
 refine SW.seq_k fun K1 hK1 => ?_
 refine SW.seq_k fun K2 hK2 => ?_
 refine SW.region _ _ _ _ ?_
 refine RL.p T ?_
 refine RL.p T ?_
 refine RL.p T ?_
 refine RL.join (fr1 := ?_) 2 9 false [10, 11] (fun hs0 hj => ?_) ?_ ?_
 rotate_left
 ·have hs0j := hs0
  try simp only [decide_eq_true_eq, Bool.not_eq_true', decide_eq_false_iff_not, Bool.not_eq_false', Int.not_lt, Int.not_le, Int.toNat_natCast, Bool.and_eq_true, Bool.or_eq_true, Bool.and_eq_false_iff, Bool.or_eq_false_iff] at hs0
  refine RL.p T ?_
  refine RL.p T ?_
  exact hj
 ·repeat first | exact Mx.refl | exact Mx.mix | refine Mx.put rfl ?_ | refine Mx.upd rfl ?_ | refine Mx.updl rfl ?_ | refine Mx.fin rfl ?_ | refine Mx.inner rfl ?_ | refine Mx.none ?_
 refine RL.or ?_
 refine RL.p T ?_
 refine RL.join (fr1 := ?_) 4 13 false [14, 15, 16, 17] (fun hs1 hj => ?_) ?_ ?_
 rotate_left
 ·have hs1j := hs1
  try simp only [decide_eq_true_eq, Bool.not_eq_true', decide_eq_false_iff_not, Bool.not_eq_false', Int.not_lt, Int.not_le, Int.toNat_natCast, Bool.and_eq_true, Bool.or_eq_true, Bool.and_eq_false_iff, Bool.or_eq_false_iff] at hs1
  refine RL.p T ?_
  refine RL.p T ?_
  refine RL.s ?_
  refine NV.shift rfl rfl rfl (by omega) (.inr ⟨rfl, rfl⟩) ?_
  refine RL.p T ?_
  exact hj
 ·repeat first | exact Mx.refl | exact Mx.mix | refine Mx.put rfl ?_ | refine Mx.upd rfl ?_ | refine Mx.updl rfl ?_ | refine Mx.fin rfl ?_ | refine Mx.inner rfl ?_ | refine Mx.none ?_
 refine RL.or ?_
 refine RL.nil _ _ _ _ ?_
 refine hK2 _ _ _ ?_
 refine SW.cs (fun hc0 => ?_) (fun hc0 => ?_)
 ·skip
  first
   | (exfalso; clear hK2 K2; clear hK1 K1; clear hK0 K0; first | omega | (simp_all; done) | (simp_all; omega))
   | (
    refine SW.seq_k fun K3 hK3 => ?_
    refine SW.region _ _ _ _ ?_
    refine RL.p T ?_
    refine RL.p T ?_
    refine RL.nil _ _ _ _ ?_
    refine hK3 _ _ _ ?_
    refine SW.ret ?_
    refine retQ.rr (H) ?_
    clear hK3 K3 hK2 K2 hK1 K1 hK0 K0
    exact ⟨rfl, rfl⟩
    )
 ·skip
  exfalso; clear hK2 K2; clear hK1 K1; clear hK0 K0; first | omega | (simp_all; done) | (simp_all; omega)
theorem bput_ok {w0 : World} {H : List Chunk} (z : Int) (s : Nat) (z0 : 0 ≤ z) (z1 : z ≤ 18446744073709551615) (h64 : s ≤ 64) (hz : z.fdiv (2 ^ (min (s : Int).toNat IntKind.u64.bits)) ≤ 0) : SC Tryd.prog w0 13 #[.int .u64 z, .int .i64 s] H (fun v H' => ∃ a c, v = .tuple #[.slice a s c, .int .i64 0] ∧ H' = .row a s c 5 1 ((bitsS z s).map (.int .u8)) :: H) := by
 refine SC.enter Tryd.func13 rfl (Nat.le_of_ble_eq_true rfl) ?_
 refine SW.seq_k fun K0 hK0 => ?_
 refine SW.region _ _ _ _ ?_
 refine RL.p T ?_
 refine RL.p T ?_
 refine RL.nil _ _ _ _ ?_
 refine hK0 _ _ _ ?_
 refine SW.seq_k fun K1 hK1 => ?_
 refine SW.seq_k fun K2 hK2 => ?_
 refine SW.region _ _ _ _ ?_
 refine RL.p T ?_
 refine RL.p T ?_
 refine RL.p T ?_
 refine RL.join (fr1 := ?_) 2 9 false [10, 11] (fun hs0 hj => ?_) ?_ ?_
 rotate_left
 ·have hs0j := hs0
  try simp only [decide_eq_true_eq, Bool.not_eq_true', decide_eq_false_iff_not, Bool.not_eq_false', Int.not_lt, Int.not_le, Int.toNat_natCast, Bool.and_eq_true, Bool.or_eq_true, Bool.and_eq_false_iff, Bool.or_eq_false_iff] at hs0
  refine RL.p T ?_
  refine RL.p T ?_
  exact hj
 ·repeat first | exact Mx.refl | exact Mx.mix | refine Mx.put rfl ?_ | refine Mx.upd rfl ?_ | refine Mx.updl rfl ?_ | refine Mx.fin rfl ?_ | refine Mx.inner rfl ?_ | refine Mx.none ?_
 refine RL.or ?_
 refine RL.p T ?_
 refine RL.join (fr1 := ?_) 4 13 false [14, 15, 16, 17] (fun hs1 hj => ?_) ?_ ?_
 rotate_left
 ·have hs1j := hs1
  try simp only [decide_eq_true_eq, Bool.not_eq_true', decide_eq_false_iff_not, Bool.not_eq_false', Int.not_lt, Int.not_le, Int.toNat_natCast, Bool.and_eq_true, Bool.or_eq_true, Bool.and_eq_false_iff, Bool.or_eq_false_iff] at hs1
  refine RL.p T ?_
  refine RL.p T ?_
  refine RL.s ?_
  refine NV.shift rfl rfl rfl (by omega) (.inr ⟨rfl, rfl⟩) ?_
  refine RL.p T ?_
  exact hj
 ·repeat first | exact Mx.refl | exact Mx.mix | refine Mx.put rfl ?_ | refine Mx.upd rfl ?_ | refine Mx.updl rfl ?_ | refine Mx.fin rfl ?_ | refine Mx.inner rfl ?_ | refine Mx.none ?_
 refine RL.or ?_
 refine RL.nil _ _ _ _ ?_
 refine hK2 _ _ _ ?_
 refine SW.cs (fun hc0 => ?_) (fun hc0 => ?_)
 ·skip
  first
   | (exfalso; clear hK2 K2; clear hK1 K1; clear hK0 K0; first | omega | (simp_all; done) | (simp_all; omega))
   | (
    refine SW.seq_k fun K3 hK3 => ?_
    refine SW.region _ _ _ _ ?_
    refine RL.p T ?_
    refine RL.p T ?_
    refine RL.nil _ _ _ _ ?_
    refine hK3 _ _ _ ?_
    refine SW.ret ?_
    refine retQ.rr ((.row ar nr cr 5 1 ((bitsS z s).map (.int .u8)) :: H)) ?_
    clear hK3 K3 hK2 K2 hK1 K1 hK0 K0
    obtain rfl : nr = s := by omega
    exact ⟨_, _, rfl, rfl⟩
    )
 ·skip
  first
   | (exfalso; clear hK2 K2; clear hK1 K1; clear hK0 K0; first | omega | (simp_all; done) | (simp_all; omega))
   | (
    refine SW.skip ?_
    refine hK1 _ _ _ ?_
    refine SW.seq_k fun K4 hK4 => ?_
    refine SW.region _ _ _ _ ?_
    refine RL.s ?_
    refine NV.alloc T rfl rfl rfl (by exact (rfl : _ = [_])) ?_
    intro b6_0
    refine RL.nil _ _ _ _ ?_
    refine hK4 _ _ _ ?_
    refine SW.seq_k fun K5 hK5 => ?_
    refine SW.region _ _ _ _ ?_
    refine RL.p T ?_
    refine RL.p T ?_
    refine RL.c fun25 (fun hs => (SC.swap (rowPut _ z s z0 z1 h64 none 0 0 [] rfl (by omega))).nilrow 5 1) ?_
    rintro _ _ ⟨ar, nr, cr, hnr, e⟩; obtain rfl := e.symm
    refine RL.nil _ _ _ _ ?_
    refine hK5 _ _ _ ?_
    refine SW.seq_k fun K6 hK6 => ?_
    refine SW.region _ _ _ _ ?_
    refine RL.p T ?_
    refine RL.lv1 T ?_
    refine RL.p T ?_
    refine RL.p T ?_
    refine RL.nil _ _ _ _ ?_
    refine hK6 _ _ _ ?_
    refine SW.ret ?_
    refine retQ.rr ((.row ar nr cr 5 1 ((bitsS z s).map (.int .u8)) :: H)) ?_
    clear hK6 K6 hK5 K5 hK4 K4 hK2 K2 hK1 K1 hK0 K0
    obtain rfl : nr = s := by omega
    exact ⟨_, _, rfl, rfl⟩
    )
end Go.Proofs.YtokihacnhefbfaaDoor.M
