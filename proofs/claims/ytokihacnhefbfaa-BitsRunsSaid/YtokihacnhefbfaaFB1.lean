import Derived.Test.YtokihacnhefbfaaProg
import Derived.Test.YtokihacnhefbfaaFA1
import Derived.Test.YtokihacnhefbfaaP1b
set_option linter.unusedVariables false
set_option linter.unusedSimpArgs false
namespace Go.Proofs.Ytokihacnhefbfaa.M
open Go Go.Sep Go.Proofs
set_option maxRecDepth 10000
set_option maxHeartbeats 2000000
theorem rrun {w0 : World} {H : List Chunk} (sa : Option Addr) (n c : Nat) (es : List Int) (hR : Rd w0 H sa n c 1 (es.map (.int .u8))) (hn : n = es.length) (hm : n ≤ 140737488351232) : SC Try.prog w0 16 #[.slice sa n c] H (fun v H' => v = .int .i64 (runV es) ∧ H' = H) := by
 refine SC.enter Try.func16 rfl (Nat.le_of_ble_eq_true rfl) ?_
 refine SW.seq_k fun K0 hK0 => ?_
 refine SW.region _ _ _ _ ?_
 refine RL.p T ?_
 refine RL.nil _ _ _ _ ?_
 refine hK0 _ _ _ ?_
 refine SW.seq_k fun K1 hK1 => ?_
 refine SW.region _ _ _ _ ?_
 refine RL.p T ?_
 refine RL.nil _ _ _ _ ?_
 refine hK1 _ _ _ ?_
 refine SW.seq_k fun K2 hK2 => ?_
 refine SW.block ?_
 refine SW.loopM (fun frB mm fr ds HH => ∃ (k : Nat), mm = n - k ∧ (k ≤ n ∧ RunI es k) ∧ FrIs [3, 4, 5, 6, 7, 8, 9, 10, 11, 12, 13, 14, 15, 16, 17, 18, 19, 20, 21, 22, 23, 24, 25, 26] frB fr [(3, .int .i64 k)] ∧ ds = [] ∧ HH = H) (n := n - 0) ?_ ?_
 ·exact ⟨0, rfl, ⟨Nat.zero_le _, RunI.start⟩, (.cons rfl (.nil (by repeat first | exact Mx.refl | exact Mx.mix | refine Mx.put rfl ?_ | refine Mx.upd rfl ?_ | refine Mx.updl rfl ?_ | refine Mx.fin rfl ?_ | refine Mx.inner rfl ?_ | refine Mx.none ?_))), rfl, rfl⟩
 ·rintro mm fr ds HH ⟨k, rfl, ⟨hk, hI⟩, hFr, rfl, eHH⟩
  obtain rfl := eHH.symm
  obtain ⟨frU, rfl⟩ := hFr.eq
  clear hFr
  refine SW.seq_k fun K3 hK3 => ?_
  refine SW.seq_k fun K4 hK4 => ?_
  refine SW.drawQ [(4, 0), (5, 1), (6, 2), (7, 3), (8, 4), (9, 5), (10, 6), (11, 7), (12, 8), (13, 9), (14, 10), (15, 11), (16, 12), (17, 13), (18, 14), (19, 15), (20, 16), (21, 17), (22, 18), (23, 19), (24, 20)] [[], [], [1], [0, 2, 1], [3, 0, 2, 1], [4, 3, 0, 2, 1], [4, 3, 0, 2, 1], [6, 4, 3, 0, 2, 1], [7, 6, 4, 3, 0, 2, 1], [4, 3, 0, 2, 1], [8, 7, 6, 4, 3, 0, 2, 1, 9], [5, 4, 3, 0, 2, 1, 10, 8, 7, 6, 9], [11, 5, 4, 3, 0, 2, 1, 10, 8, 7, 6, 9], [4, 3, 0, 2, 1], [4, 3, 0, 2, 1], [14, 4, 3, 0, 2, 1], [15, 14, 4, 3, 0, 2, 1], [13, 4, 3, 0, 2, 1, 16, 15, 14], [17, 13, 4, 3, 0, 2, 1, 16, 15, 14], [12, 11, 5, 4, 3, 0, 2, 1, 10, 8, 7, 6, 9, 18, 17, 13, 16, 15, 14], [4, 3, 0, 2, 1, 19, 12, 11, 5, 10, 8, 7, 6, 9, 18, 17, 13, 16, 15, 14]] mixed (by kernel_rfl) (by kernel_rfl) ?_
  refine QL.p T ?_
  refine QL.p T ?_
  refine QL.p T ?_
  refine QL.p T ?_
  refine QL.p T ?_
  refine QL.join (fr1 := ?_) 15 8 true [9, 10, 11, 12, 13, 14, 15, 16, 17, 18, 19, 20, 21, 22, 23] (fun hs0 hj => ?_) ?_ ?_
  rotate_left
  ·have hs0j := hs0
   try simp only [decide_eq_true_eq, Bool.not_eq_true', decide_eq_false_iff_not, Bool.not_eq_false', Int.not_lt, Int.not_le, Int.toNat_natCast, Bool.and_eq_true, Bool.or_eq_true, Bool.and_eq_false_iff, Bool.or_eq_false_iff] at hs0
   refine QL.p T ?_
   refine QL.p T ?_
   refine QL.p T ?_
   first | refine QL.ar ?_ | refine QL.p T ?_
   refine QL.p T ?_
   first | refine QL.ar ?_ | refine QL.p T ?_
   refine QL.ix T ?_
   refine QL.le T ?_
   refine QL.p T ?_
   refine QL.p T ?_
   refine QL.p T ?_
   first | refine QL.ar ?_ | refine QL.p T ?_
   refine QL.ix T ?_
   refine QL.le T ?_
   refine QL.p T ?_
   exact hj
  ·repeat first | exact Mx.refl | exact Mx.mix | refine Mx.put rfl ?_ | refine Mx.upd rfl ?_ | refine Mx.updl rfl ?_ | refine Mx.fin rfl ?_ | refine Mx.inner rfl ?_ | refine Mx.none ?_
  refine QL.and ?_
  refine QL.nil ?_
  refine hK4 _ _ _ ?_
  refine SW.cs (fun hc0 => ?_) (fun hc0 => ?_)
  ·skip
   refine SW.skip ?_
   refine hK3 _ _ _ ?_
   refine SW.block ?_
   refine SW.region _ _ _ _ ?_
   refine RL.p T ?_
   first | refine RL.ar ?_ | refine RL.p T ?_
   refine RL.p T ?_
   refine RL.nil _ _ _ _ ?_
   exact ⟨n - (k + 1), (by omega), k + 1, (by rfl), ⟨by omega, hI.step' (by omega) (by have h := hc0.2; rwa [show ((n : Int) - 1 - k).toNat = es.length - 1 - k by omega, show ((n : Int) - 1).toNat = es.length - 1 by omega] at h)⟩, (.cons rfl (.nil (by repeat first | exact Mx.refl | exact Mx.mix | refine Mx.put rfl ?_ | refine Mx.upd rfl ?_ | refine Mx.updl rfl ?_ | refine Mx.fin rfl ?_ | refine Mx.inner rfl ?_ | refine Mx.none ?_))), rfl, rfl⟩
  ·skip
   refine SW.exit ?_
   refine hK2 _ _ _ ?_
   refine SW.seq_k fun K5 hK5 => ?_
   refine SW.region _ _ _ _ ?_
   refine RL.p T ?_
   refine RL.p T ?_
   refine RL.nil _ _ _ _ ?_
   refine hK5 _ _ _ ?_
   refine SW.ret ?_
   refine retQ.rr (H) ?_
   clear hK5 K5 hK4 K4 hK3 K3 hK2 K2 hK1 K1 hK0 K0
   refine ⟨intE ?_, rfl⟩
   refine (hI.run ?_).symm
   rcases hc0 with h | h
   · exact .inl (by omega)
   · exact .inr (by rwa [show ((n : Int) - 1 - k).toNat = es.length - 1 - k by omega, show ((n : Int) - 1).toNat = es.length - 1 by omega] at h)
theorem rnum {w0 : World} {H : List Chunk} (sa : Option Addr) (n c : Nat) (es : List Int) (hR : Rd w0 H sa n c 1 (es.map (.int .u8))) (hn : n = es.length) (hm : n ≤ 140737488351232) (h64 : es.length ≤ 64) (hb : Bit es) : SC Try.prog w0 27 #[.slice sa n c] H (fun v H' => v = .int .u64 (numS 0 es) ∧ H' = H) := by
 refine SC.enter Try.func27 rfl (Nat.le_of_ble_eq_true rfl) ?_
 refine SW.seq_k fun K0 hK0 => ?_
 refine SW.region _ _ _ _ ?_
 refine RL.p T ?_
 refine RL.nil _ _ _ _ ?_
 refine hK0 _ _ _ ?_
 refine SW.seq_k fun K1 hK1 => ?_
 refine SW.region _ _ _ _ ?_
 refine RL.p T ?_
 refine RL.nil _ _ _ _ ?_
 refine hK1 _ _ _ ?_
 refine SW.seq_k fun K2 hK2 => ?_
 refine SW.seq_k fun K3 hK3 => ?_
 refine SW.region _ _ _ _ ?_
 refine RL.p T ?_
 refine RL.p T ?_
 refine RL.p T ?_
 refine RL.nil _ _ _ _ ?_
 refine hK3 _ _ _ ?_
 refine SW.block ?_
 refine SW.loopM (fun frB mm fr ds HH => ∃ (k : Nat) , mm = n - k ∧ (k ≤ n ∧ (True)) ∧ FrIs [3, 5, 8, 9, 10, 11, 12, 13, 14, 15, 16, 17] frB fr [(8, .int .i64 k), (3, .int .u64 (numS 0 (es.take k)))] ∧ ds = [] ∧ HH = H) (n := n - 0) ?_ ?_
 ·exact ⟨0, rfl, ⟨Nat.zero_le _, trivial⟩, (.cons rfl (.consI rfl (by first | omega | rfl) (.nil (by repeat first | exact Mx.refl | exact Mx.mix | refine Mx.put rfl ?_ | refine Mx.upd rfl ?_ | refine Mx.updl rfl ?_ | refine Mx.fin rfl ?_ | refine Mx.inner rfl ?_ | refine Mx.none ?_)))), rfl, rfl⟩
 ·rintro mm fr ds HH ⟨k, rfl, ⟨hk, _⟩, hFr, rfl, eHH⟩
  obtain rfl := eHH.symm
  obtain ⟨frU, rfl⟩ := hFr.eq
  clear hFr
  have hst : k < es.length → _ := numS_take (x := 0) (es := es) (k := k)
  have hz := hb k
  have h0 := numS_pos (x := 0) (k := k) (by omega) hb
  have h1 := fun h => numS_small (x := 0) (k := k) (by omega) (numS_room h64) hb h
  refine SW.seq_k fun K4 hK4 => ?_
  refine SW.region _ _ _ _ ?_
  refine RL.p T ?_
  refine RL.nil _ _ _ _ ?_
  refine hK4 _ _ _ ?_
  refine SW.seq_k fun K5 hK5 => ?_
  refine SW.cs (fun hc0 => ?_) (fun hc0 => ?_)
  ·skip
   refine SW.skip ?_
   refine hK5 _ _ _ ?_
   refine SW.seq_k fun K6 hK6 => ?_
   refine SW.block ?_
   refine SW.seq_k fun K7 hK7 => ?_
   refine SW.region _ _ _ _ ?_
   refine RL.ix T ?_
   refine RL.le T ?_
   refine RL.p T ?_
   refine RL.nil _ _ _ _ ?_
   refine hK7 _ _ _ ?_
   refine SW.region _ _ _ _ ?_
   refine RL.p T ?_
   first | refine RL.arK ?_ | refine RL.p T ?_
   refine RL.p T ?_
   first | refine RL.cv T ?_ | refine RL.p T ?_ | refine RL.ts T ?_
   first | refine RL.arK ?_ | refine RL.p T ?_
   refine RL.p T ?_
   refine RL.nil _ _ _ _ ?_
   refine hK6 _ _ _ ?_
   refine SW.region _ _ _ _ ?_
   first | refine RL.ar ?_ | refine RL.p T ?_
   refine RL.p T ?_
   refine RL.nil _ _ _ _ ?_
   exact ⟨n - (k + 1), (by omega), k + 1, (by rfl), ⟨by omega, trivial⟩, (.cons rfl (.consI rfl (by first | omega | rfl) (.nil (by repeat first | exact Mx.refl | exact Mx.mix | refine Mx.put rfl ?_ | refine Mx.upd rfl ?_ | refine Mx.updl rfl ?_ | refine Mx.fin rfl ?_ | refine Mx.inner rfl ?_ | refine Mx.none ?_)))), rfl, rfl⟩
  ·skip
   refine SW.exit ?_
   refine hK2 _ _ _ ?_
   refine SW.seq_k fun K8 hK8 => ?_
   refine SW.region _ _ _ _ ?_
   refine RL.p T ?_
   refine RL.p T ?_
   refine RL.nil _ _ _ _ ?_
   refine hK8 _ _ _ ?_
   refine SW.ret ?_
   refine retQ.rr (H) ?_
   clear hK8 K8 hK5 K5 hK4 K4 hK3 K3 hK2 K2 hK1 K1 hK0 K0
   refine ⟨?_, rfl⟩; rw [List.take_of_length_le (by omega)]; rfl
theorem rbits {w0 : World} {H : List Chunk} (z : Int) (s : Nat) (h64 : s ≤ 64) (z0 : 0 ≤ z) (z1 : z ≤ 18446744073709551615) : SC Try.prog w0 24 #[.int .u64 z, .int .i64 s] H (fun v H' => ∃ ab cb, v = .slice ab s cb ∧ H' = .row ab s cb 5 1 ((bitsS z s).map (.int .u8)) :: H) := by
 refine SC.enter Try.func24 rfl (Nat.le_of_ble_eq_true rfl) ?_
 refine SW.seq_k fun K0 hK0 => ?_
 refine SW.region _ _ _ _ ?_
 refine RL.p T ?_
 refine RL.nil _ _ _ _ ?_
 refine hK0 _ _ _ ?_
 refine SW.seq_k fun K1 hK1 => ?_
 refine SW.region _ _ _ _ ?_
 refine RL.p T ?_
 refine RL.mk T fun b8_0 => ?_
 refine RL.p T ?_
 refine RL.nil _ _ _ _ ?_
 refine hK1 _ _ _ ?_
 refine SW.seq_k fun K2 hK2 => ?_
 refine SW.seq_k fun K3 hK3 => ?_
 refine SW.region _ _ _ _ ?_
 refine RL.p T ?_
 first | refine RL.ar ?_ | refine RL.p T ?_
 refine RL.p T ?_
 refine RL.nil _ _ _ _ ?_
 refine hK3 _ _ _ ?_
 refine SW.block ?_
 refine SW.loopM (fun frB mm fr ds HH => ∃ (k : Nat) (xs : List Int), mm = s - k ∧ (k ≤ s ∧ xs.length = s ∧ xs.drop (s - k) = bitsS z k) ∧ FrIs [0, 6, 11, 12, 13, 14, 15, 16, 17, 18, 19, 20, 21, 22] frB fr [(0, .int .u64 (z / 2 ^ k)), (6, .int .i64 ((s : Int) - 1 - k))] ∧ ds = [] ∧ HH = (.row (some ⟨b8_0, 0, none⟩) s s 5 1 (xs.map (.int .u8)) :: H)) (n := s - 0) ?_ ?_
 ·exact ⟨0, List.replicate s 0, rfl, ⟨Nat.zero_le _, by simp, by simp [bitsS]⟩, (.consI rfl (by first | omega | rfl) (.consI rfl (by first | omega | rfl) (.nil (by repeat first | exact Mx.refl | exact Mx.mix | refine Mx.put rfl ?_ | refine Mx.upd rfl ?_ | refine Mx.updl rfl ?_ | refine Mx.fin rfl ?_ | refine Mx.inner rfl ?_ | refine Mx.none ?_)))), rfl, (by rw [List.map_replicate])⟩
 ·rintro mm fr ds HH ⟨k, xs, rfl, ⟨hk, hl, hx⟩, hFr, rfl, eHH⟩
  obtain rfl := eHH.symm
  obtain ⟨frU, rfl⟩ := hFr.eq
  clear hFr
  have e2 := half (z := z) (k := k)
  have hp : (0 : Int) < 2 ^ k := Int.pow_pos (by decide)
  have hq0 : 0 ≤ z / 2 ^ k := Int.ediv_nonneg z0 (by omega)
  have hq1 : z / 2 ^ k ≤ z := Int.ediv_le_self _ z0
  refine SW.seq_k fun K4 hK4 => ?_
  refine SW.seq_k fun K5 hK5 => ?_
  refine SW.region _ _ _ _ ?_
  refine RL.p T ?_
  refine RL.p T ?_
  refine RL.nil _ _ _ _ ?_
  refine hK5 _ _ _ ?_
  refine SW.cs (fun hc0 => ?_) (fun hc0 => ?_)
  ·skip
   refine SW.skip ?_
   refine hK4 _ _ _ ?_
   refine SW.seq_k fun K6 hK6 => ?_
   refine SW.block ?_
   refine SW.seq_k fun K7 hK7 => ?_
   refine SW.region _ _ _ _ ?_
   refine RL.p T ?_
   refine RL.p T ?_
   refine RL.p T ?_
   first | refine RL.q (QV.remP rfl rfl rfl (by omega) (by omega)) ?_ | refine RL.q (QV.rem rfl rfl rfl (by omega) rfl) ?_
   first | refine RL.cv T ?_ | refine RL.p T ?_ | refine RL.ts T ?_
   refine RL.ix T ?_
   refine RL.sei T ?_
   refine RL.nil _ _ _ _ ?_
   refine hK7 _ _ _ ?_
   refine SW.region _ _ _ _ ?_
   refine RL.p T ?_
   first | refine RL.q (QV.quoP rfl rfl rfl (by omega) (by omega) (by simp only [hiK]; omega)) ?_ | refine RL.q (QV.quo rfl rfl rfl (by omega) rfl) ?_
   refine RL.p T ?_
   refine RL.nil _ _ _ _ ?_
   refine hK6 _ _ _ ?_
   refine SW.region _ _ _ _ ?_
   refine RL.p T ?_
   first | refine RL.ar ?_ | refine RL.p T ?_
   refine RL.p T ?_
   refine RL.nil _ _ _ _ ?_
   exact ⟨s - (k + 1), (by omega), k + 1, xs.set (s - 1 - k) ((z / 2 ^ k) % 2), (by rfl), ⟨by omega, by simpa using hl, bits_set (by omega) hl hx⟩, (.consI rfl (by first | omega | rfl) (.consI rfl (by first | omega | rfl) (.nil (by repeat first | exact Mx.refl | exact Mx.mix | refine Mx.put rfl ?_ | refine Mx.upd rfl ?_ | refine Mx.updl rfl ?_ | refine Mx.fin rfl ?_ | refine Mx.inner rfl ?_ | refine Mx.none ?_)))), rfl, (by rw [show ((s : Int) - 1 - k).toNat = s - 1 - k by omega])⟩
  ·skip
   refine SW.exit ?_
   refine hK2 _ _ _ ?_
   refine SW.seq_k fun K8 hK8 => ?_
   refine SW.region _ _ _ _ ?_
   refine RL.p T ?_
   refine RL.p T ?_
   refine RL.nil _ _ _ _ ?_
   refine hK8 _ _ _ ?_
   refine SW.ret ?_
   refine retQ.rr _ ?_ (hH := fun w hw => hw)
   clear hK8 K8 hK5 K5 hK4 K4 hK3 K3 hK2 K2 hK1 K1 hK0 K0
   obtain rfl : k = s := by omega
   rw [Nat.sub_self, List.drop_zero] at hx
   rw [hx]
   exact ⟨_, _, rfl, rfl⟩
end Go.Proofs.Ytokihacnhefbfaa.M
