import Derived.Test.YtokihacnhefbfaaProg
import Derived.Test.YtokihacnhefbfaaFB1
set_option linter.unusedVariables false
set_option linter.unusedSimpArgs false
namespace Go.Proofs.Ytokihacnhefbfaa.M
open Go Go.Sep Go.Proofs
set_option maxRecDepth 10000
set_option maxHeartbeats 2000000
theorem chunkF {w0 : World} {H : List Chunk} (sa : Option Addr) (n c m : Nat) (hm : 1 ≤ m) : SC Try.prog w0 30 #[.slice sa n c, .int .i64 m] H (fun v H' => ∃ b1 b2, v = .func (.func 37) #[] #[.pointer (some ⟨b1, 0, none⟩), .pointer (some ⟨b2, 0, none⟩)] ∧ H' = .var b2 3 [.int .i64 m] :: .var b1 22 [.slice sa n c] :: H) := by
 refine SC.enter Try.func30 rfl (Nat.le_of_ble_eq_true rfl) ?_
 refine SW.seq_k fun K0 hK0 => ?_
 refine SW.region _ _ _ _ ?_
 refine RL.s ?_
 refine NV.box rfl (by exact (rfl : _ = [_])) ?_
 intro b2_0
 refine RL.s ?_
 refine NV.box rfl (by exact (rfl : _ = [_])) ?_
 intro b3_1
 refine RL.p T ?_
 refine RL.nil _ _ _ _ ?_
 refine hK0 _ _ _ ?_
 refine SW.seq_k fun K1 hK1 => ?_
 refine SW.seq_k fun K2 hK2 => ?_
 refine SW.region _ _ _ _ ?_
 refine RL.lv1 T ?_
 refine RL.p T ?_
 refine RL.nil _ _ _ _ ?_
 refine hK2 _ _ _ ?_
 refine SW.cs (fun hc0 => ?_) (fun hc0 => ?_)
 ·skip
  first
   | (exfalso; omega)
   | (
    refine SW.region _ _ _ _ ?_
    refine RL.p T ?_
    refine RL.s ?_
    refine NV.p T ?_
    refine RL.nil _ _ _ _ ?_
    refine hK1 _ _ _ ?_
    refine SW.seq_k fun K3 hK3 => ?_
    refine SW.region _ _ _ _ ?_
    refine RL.p T ?_
    refine RL.p T ?_
    refine RL.nil _ _ _ _ ?_
    refine hK3 _ _ _ ?_
    refine SW.ret ?_
    refine retQ.rr _ ?_ (hH := fun w hw => hw)
    clear hK3 K3 hK2 K2 hK1 K1 hK0 K0
    exact ⟨_, _, rfl, rfl⟩
    )
 ·skip
  first
   | (exfalso; omega)
   | (
    refine SW.skip ?_
    refine hK1 _ _ _ ?_
    refine SW.seq_k fun K4 hK4 => ?_
    refine SW.region _ _ _ _ ?_
    refine RL.p T ?_
    refine RL.p T ?_
    refine RL.nil _ _ _ _ ?_
    refine hK4 _ _ _ ?_
    refine SW.ret ?_
    refine retQ.rr _ ?_ (hH := fun w hw => hw)
    clear hK4 K4 hK2 K2 hK1 K1 hK0 K0
    exact ⟨_, _, rfl, rfl⟩
    )
theorem chunkIter {w0 : World} {H : List Chunk} (L b1 b2 : Nat) (sa : Option Addr) (n c m : Nat) (es : List Int) (hm : n ≤ 140737488351232) (hm1 : 1 ≤ m) (hm2 : m ≤ 65536) {J : Nat → List Chunk → Prop} {X : List Chunk → Prop} (hV : ∀ k HJ, J k HJ → ∃ kk, At HJ (.var b1 22 [.slice sa n c]) kk) (hV2 : ∀ k HJ, J k HJ → ∃ kk, At HJ (.var b2 3 [.int .i64 m]) kk) (hJR : ∀ k HJ, J k HJ → (∃ w, Sat w0 w HJ) → Rd w0 HJ sa n c 1 (es.map (.int .u8))) (hJ0 : J 0 H) (hround : ∀ k h HJ, m * k < n → m * k < h ∧ h ≤ n ∧ (h = n ∨ h = m * k + m) ∧ h ≤ m * k + m → J k HJ → Yld Try.prog w0 none L [.slice (subA sa (m * k) h 1) (h - m * k) (h - m * k)] HJ (fun v H' => ∃ bb, v = .bool bb ∧ (bb = true → J (k + 1) H') ∧ (bb = false → X H'))) : SC Try.prog w0 37 #[.func (.yield L) #[] #[], .pointer (some ⟨b1, 0, none⟩), .pointer (some ⟨b2, 0, none⟩)] H (fun v H' => (∃ k, n ≤ m * k ∧ m * k < n + m ∧ J k H') ∨ X H') := by
 refine SC.enter Try.func37 rfl (Nat.le_of_ble_eq_true rfl) ?_
 refine SW.seq_k fun K0 hK0 => ?_
 obtain ⟨kv0, hat0⟩ := hV 0 H hJ0
 refine SW.region _ _ _ _ ?_
 refine RL.p T ?_
 refine RL.nil _ _ _ _ ?_
 refine hK0 _ _ _ ?_
 refine SW.block ?_
 refine SW.loopM (fun frB mm fr ds HH => ∃ (k l : Nat) (HJ : List Chunk), mm = n + m - l ∧ (l = m * k ∧ m * k < n + m ∧ J k HJ) ∧ FrIs [4, 5, 6, 7, 8, 9, 10, 11, 12, 13, 14, 15, 16, 17, 18, 19, 20, 21, 22, 23, 24, 25, 26, 27, 28, 29, 30] frB fr [(4, .int .i64 l)] ∧ ds = [] ∧ HH = HJ) (n := n + m - 0) ?_ ?_
 ·exact ⟨0, 0, H, rfl, ⟨rfl, by omega, hJ0⟩, (.consI rfl (by first | omega | rfl) (.nil (by repeat first | exact Mx.refl | exact Mx.mix | refine Mx.put rfl ?_ | refine Mx.upd rfl ?_ | refine Mx.updl rfl ?_ | refine Mx.fin rfl ?_ | refine Mx.inner rfl ?_ | refine Mx.none ?_))), rfl, rfl⟩
 ·rintro mm fr ds HH ⟨k, l, HJ, rfl, ⟨rfl, hln, hJ⟩, hFr, rfl, eHH⟩
  obtain rfl := eHH.symm
  obtain ⟨frU, rfl⟩ := hFr.eq
  clear hFr
  obtain ⟨kv, hat⟩ := hV k HJ hJ
  obtain ⟨kv2, hat2⟩ := hV2 k HJ hJ
  have hRk := hJR k HJ hJ
  have hmk : m * (k + 1) = m * k + m := Nat.mul_succ m k
  refine SW.seq_k fun K1 hK1 => ?_
  refine SW.seq_k fun K2 hK2 => ?_
  refine SW.region _ _ _ _ ?_
  refine RL.p T ?_
  first | refine RL.lv1 T ?_ | refine RL.le T ?_
  refine RL.p T ?_
  refine RL.p T ?_
  refine RL.nil _ _ _ _ ?_
  refine hK2 _ _ _ ?_
  refine SW.cs (fun hc0 => ?_) (fun hc0 => ?_)
  ·skip
   refine SW.skip ?_
   refine hK1 _ _ _ ?_
   refine SW.seq_k fun K3 hK3 => ?_
   refine SW.block ?_
   refine SW.seq_k fun K4 hK4 => ?_
   refine SW.drawQ [(13, 0), (14, 1), (15, 2), (16, 3), (17, 4), (18, 5), (5, 6)] [[], [], [], [1, 2], [3, 1, 2], [0, 4, 3, 1, 2], [5, 0, 4, 3, 1, 2]] mixed (by kernel_rfl) (by kernel_rfl) ?_
   first | refine QL.lv1 T ?_ | refine QL.le T ?_
   first | refine QL.lv1 T ?_ | refine QL.le T ?_
   refine QL.p T ?_
   refine QL.sl T ?_ (l1 := m * k)
   refine QL.p T ?_
   refine QL.p T ?_
   refine QL.p T ?_
   refine QL.nil ?_
   refine hK4 _ _ _ ?_
   refine SW.seq_k fun K5 hK5 => ?_
   refine SW.region _ _ _ _ ?_
   refine RL.p T ?_
   first | refine RL.lv1 T ?_ | refine RL.le T ?_
   refine RL.p T ?_
   refine RL.p T ?_
   refine RL.p T ?_
   first | refine RL.ar ?_ | refine RL.p T ?_
   refine RL.p T ?_
   refine RL.p T ?_
   first | refine RL.ar ?_ | refine RL.p T ?_
   refine RL.sl3 T ?_ (l1 := m * k) (h1 := min n (m * k + m)) (m1 := min n (m * k + m))
   refine RL.s ?_
   refine NV.yield ((hround k (min n (m * k + m)) HJ (by omega) (by omega) hJ).mono ?_)
   rintro _ HY ⟨bb, rfl, hY1, hY2⟩
   refine RL.p T ?_
   refine RL.nil _ _ _ _ ?_
   refine hK5 _ _ _ ?_
   refine SW.cs (fun hc1 => ?_) (fun hc1 => ?_)
   ·skip
    refine SW.ret ?_
    refine retQ.rr _ ?_ (hH := fun w hw => hw)
    clear hK5 K5 hK4 K4 hK3 K3 hK2 K2 hK1 K1 hK0 K0
    first
      | exact .inr (hY2 (by first | assumption | simp_all))
      | exact .inl ⟨k, by omega, hln, hJ⟩
   ·skip
    refine SW.skip ?_
    refine hK3 _ _ _ ?_
    obtain ⟨kv3, hat3⟩ := hV2 (k + 1) HY (hY1 (by first | assumption | simp_all))
    refine SW.region _ _ _ _ ?_
    refine RL.p T ?_
    first | refine RL.lv1 T ?_ | refine RL.le T ?_
    first | refine RL.ar ?_ | refine RL.p T ?_
    refine RL.p T ?_
    refine RL.nil _ _ _ _ ?_
    exact ⟨n + m - (m * k + m), (by omega), k + 1, m * k + m, HY, (by rfl), ⟨by omega, by omega, hY1 (by first | assumption | simp_all)⟩, (.consI rfl (by first | omega | rfl) (.nil (by repeat first | exact Mx.refl | exact Mx.mix | refine Mx.put rfl ?_ | refine Mx.upd rfl ?_ | refine Mx.updl rfl ?_ | refine Mx.fin rfl ?_ | refine Mx.inner rfl ?_ | refine Mx.none ?_))), rfl, rfl⟩
  ·skip
   refine SW.exit ?_
   try simp only [thenQ, blockQ, Nat.beq_refl, cond_true]
   refine retQ.nn _ ?_ (hH := fun w hw => hw)
   clear hK2 K2 hK1 K1 hK0 K0
   first
     | exact .inr (hY2 (by first | assumption | simp_all))
     | exact .inl ⟨k, by omega, hln, hJ⟩
theorem getC {w0 : World} {H : List Chunk} (sa : Option Addr) (n c : Nat) (es : List Int) (hR : Rd w0 H sa n c 1 (es.map (.int .u8))) (hn : n = es.length) (hm : n ≤ 140737488351232) (hb : Byte es) : SC Try.prog w0 11 #[.slice sa n c] H (fun v H' => v = .tuple #[.int .u64 (getN es).1, .int .i64 (getN es).2] ∧ H' = H) := by
  by_cases h : es.length ≤ 64 ∧ chk es = 0
  · rw [show getN es = (numS 0 es, 0) from if_pos h]; exact get_ok sa n c es hR hn hm h.1 h.2 (chk_bit hb h.2)
  · rw [show getN es = (0, 2) from if_neg h]; exact get_bad sa n c es hR hn hm (by omega)
theorem rget {w0 : World} {H : List Chunk} (sa : Option Addr) (n c : Nat) (es : List Int) (hR : Rd w0 H sa n c 1 (es.map (.int .u8))) (hn : n = es.length) (hm : n ≤ 140737488351232) (hb : Byte es) : SC Try.prog w0 12 #[.slice sa n c] H (fun v H' => v = .tuple #[.int .u64 (getN es).1, .int .i64 (getN es).2] ∧ H' = H) := by
 refine SC.enter Try.func12 rfl (Nat.le_of_ble_eq_true rfl) ?_
 refine SW.seq_k fun K0 hK0 => ?_
 refine SW.region _ _ _ _ ?_
 refine RL.p T ?_
 refine RL.p T ?_
 refine RL.nil _ _ _ _ ?_
 refine hK0 _ _ _ ?_
 refine SW.seq_k fun K1 hK1 => ?_
 refine SW.seq_k fun K2 hK2 => ?_
 refine SW.region _ _ _ _ ?_
 refine RL.p T ?_
 refine RL.p T ?_
 refine RL.p T ?_
 refine RL.p T ?_
 refine RL.join (fr1 := ?_) 3 7 false [8, 9, 10] (fun hs0 hj => ?_) ?_ ?_
 rotate_left
 ·have hs0j := hs0
  try simp only [decide_eq_true_eq, Bool.not_eq_true', decide_eq_false_iff_not, Bool.not_eq_false', Int.not_lt, Int.not_le, Int.toNat_natCast, Bool.and_eq_true, Bool.or_eq_true, Bool.and_eq_false_iff, Bool.or_eq_false_iff] at hs0
  refine RL.p T ?_
  refine RL.c fun15 (fun hs => rcheck sa n c es hR hn hm) ?_
  rintro _ _ ⟨rfl, e⟩; obtain rfl := e.symm
  refine RL.p T ?_
  exact hj
 ·repeat first | exact Mx.refl | exact Mx.mix | refine Mx.put rfl ?_ | refine Mx.upd rfl ?_ | refine Mx.updl rfl ?_ | refine Mx.fin rfl ?_ | refine Mx.inner rfl ?_ | refine Mx.none ?_
 refine RL.or ?_
 refine RL.nil _ _ _ _ ?_
 refine hK2 _ _ _ ?_
 refine SW.cs (fun hc0 => ?_) (fun hc0 => ?_)
 ·skip
  refine SW.seq_k fun K3 hK3 => ?_
  refine SW.region _ _ _ _ ?_
  refine RL.p T ?_
  refine RL.p T ?_
  refine RL.nil _ _ _ _ ?_
  refine hK3 _ _ _ ?_
  refine SW.ret ?_
  refine retQ.rr (H) ?_
  clear hK3 K3 hK2 K2 hK1 K1 hK0 K0
  refine ⟨?_, rfl⟩; first | (rw [show getN es = (0, 2) from if_neg (by omega)]; rfl) | (rw [show getN es = (numS 0 es, 0) from if_pos (by omega)]; rfl)
 ·skip
  refine SW.skip ?_
  refine hK1 _ _ _ ?_
  refine SW.seq_k fun K4 hK4 => ?_
  refine SW.region _ _ _ _ ?_
  refine RL.p T ?_
  refine RL.c fun27 (fun hs => rnum sa n c es hR hn hm (by omega) (chk_bit hb (by omega))) ?_
  rintro _ _ ⟨rfl, e⟩; obtain rfl := e.symm
  refine RL.p T ?_
  refine RL.p T ?_
  refine RL.nil _ _ _ _ ?_
  refine hK4 _ _ _ ?_
  refine SW.ret ?_
  refine retQ.rr (H) ?_
  clear hK4 K4 hK2 K2 hK1 K1 hK0 K0
  refine ⟨?_, rfl⟩; first | (rw [show getN es = (0, 2) from if_neg (by omega)]; rfl) | (rw [show getN es = (numS 0 es, 0) from if_pos (by omega)]; rfl)
theorem putC {w0 : World} {H : List Chunk} (z s : Int) (z0 : 0 ≤ z) (z1 : z ≤ 18446744073709551615) : SC Try.prog w0 9 #[.int .u64 z, .int .i64 s] H (RV w0 H (putN z s).1 (putN z s).2) := by
  by_cases h : s < 0 ∨ 64 < s ∨ 0 < z.fdiv (2 ^ (min s.toNat 64))
  · rw [show putN z s = ([], 2) from if_pos h]
    exact (bput_bad z s z0 h).mono (by rintro _ _ ⟨rfl, rfl⟩; exact ⟨_, rfl, Res.nil⟩)
  · rw [show putN z s = (bitsS z s.toNat, 0) from if_neg h]
    obtain ⟨m, rfl⟩ : ∃ m : Nat, s = m := ⟨s.toNat, by omega⟩
    simp only [Int.toNat_natCast] at h ⊢
    refine SC.satR ((bput_ok z m z0 z1 (by omega) (by show z.fdiv (2 ^ (min m 64)) ≤ 0; omega)).mono ?_)
    rintro v _ ⟨a, c, rfl, rfl⟩ hs
    exact ⟨_, rfl, by have := bitsS_length z m; exact Res.row (n := m) hs (At.head _ _) (G := [_]) rfl⟩
theorem rput_bad {w0 : World} {H : List Chunk} (z s : Int) (z0 : 0 ≤ z) (z1 : z ≤ 18446744073709551615) (h : s < 0 ∨ 64 < s ∨ 0 < z.fdiv (2 ^ (min s.toNat 64))) : SC Try.prog w0 10 #[.int .u64 z, .int .i64 s] H (fun v H' => v = .tuple #[.slice none 0 0, .int .i64 2] ∧ H' = H) := by
 refine SC.enter Try.func10 rfl (Nat.le_of_ble_eq_true rfl) ?_
 refine SW.seq_k fun K0 hK0 => ?_
 have hfd : 64 ≤ s → z.fdiv (2 ^ (min s.toNat 64)) = 0 := fun h => by
   rw [show min s.toNat 64 = 64 by omega, Int.fdiv_eq_ediv_of_nonneg _ (by decide)]
   omega
 refine SW.region _ _ _ _ ?_
 refine RL.p T ?_
 refine RL.p T ?_
 refine RL.nil _ _ _ _ ?_
 refine hK0 _ _ _ ?_
 refine SW.seq_k fun K1 hK1 => ?_
 refine SW.seq_k fun K2 hK2 => ?_
 refine SW.region _ _ _ _ ?_
 refine RL.p T ?_
 refine RL.p T ?_
 refine RL.p T ?_
 refine RL.join (fr1 := ?_) 2 8 false [9, 10] (fun hs0 hj => ?_) ?_ ?_
 rotate_left
 ·have hs0j := hs0
  try simp only [decide_eq_true_eq, Bool.not_eq_true', decide_eq_false_iff_not, Bool.not_eq_false', Int.not_lt, Int.not_le, Int.toNat_natCast, Bool.and_eq_true, Bool.or_eq_true, Bool.and_eq_false_iff, Bool.or_eq_false_iff] at hs0
  refine RL.p T ?_
  refine RL.p T ?_
  exact hj
 ·repeat first | exact Mx.refl | exact Mx.mix | refine Mx.put rfl ?_ | refine Mx.upd rfl ?_ | refine Mx.updl rfl ?_ | refine Mx.fin rfl ?_ | refine Mx.inner rfl ?_ | refine Mx.none ?_
 refine RL.or ?_
 refine RL.p T ?_
 refine RL.join (fr1 := ?_) 9 12 false [13, 14, 15, 16, 17, 18, 19, 20, 21] (fun hs1 hj => ?_) ?_ ?_
 rotate_left
 ·have hs1j := hs1
  try simp only [decide_eq_true_eq, Bool.not_eq_true', decide_eq_false_iff_not, Bool.not_eq_false', Int.not_lt, Int.not_le, Int.toNat_natCast, Bool.and_eq_true, Bool.or_eq_true, Bool.and_eq_false_iff, Bool.or_eq_false_iff] at hs1
  refine RL.p T ?_
  refine RL.p T ?_
  refine RL.p T ?_
  refine RL.join (fr1 := ?_) 5 15 true [16, 17, 18, 19, 20] (fun hs2 hj => ?_) ?_ ?_
  rotate_left
  ·have hs2j := hs2
   try simp only [decide_eq_true_eq, Bool.not_eq_true', decide_eq_false_iff_not, Bool.not_eq_false', Int.not_lt, Int.not_le, Int.toNat_natCast, Bool.and_eq_true, Bool.or_eq_true, Bool.and_eq_false_iff, Bool.or_eq_false_iff] at hs2
   refine RL.p T ?_
   refine RL.p T ?_
   first | refine RL.cv T ?_ | refine RL.p T ?_ | refine RL.ts T ?_
   refine RL.q (QV.shift rfl rfl rfl (by omega) (.inr ⟨rfl, rfl⟩)) ?_
   refine RL.p T ?_
   exact hj
  ·repeat first | exact Mx.refl | exact Mx.mix | refine Mx.put rfl ?_ | refine Mx.upd rfl ?_ | refine Mx.updl rfl ?_ | refine Mx.fin rfl ?_ | refine Mx.inner rfl ?_ | refine Mx.none ?_
  refine RL.and ?_
  exact hj
 ·repeat first | exact Mx.refl | exact Mx.mix | refine Mx.put rfl ?_ | refine Mx.upd rfl ?_ | refine Mx.updl rfl ?_ | refine Mx.fin rfl ?_ | refine Mx.inner rfl ?_ | refine Mx.none ?_
 refine RL.or ?_
 refine RL.nil _ _ _ _ ?_
 refine hK2 _ _ _ ?_
 refine SW.cs (fun hc0 => ?_) (fun hc0 => ?_)
 ·skip
  first
   | (exfalso; first | omega | (rw [show IntKind.u64.bits = 64 from rfl] at *; omega))
   | (
    refine SW.seq_k fun K3 hK3 => ?_
    refine SW.region _ _ _ _ ?_
    refine RL.p T ?_
    refine RL.p T ?_
    refine RL.nil _ _ _ _ ?_
    refine hK3 _ _ _ ?_
    refine SW.ret ?_
    refine retQ.rr (H) ?_
    clear hK3 K3 hK2 K2 hK1 K1 hK0 K0
    exact ⟨rfl, rfl⟩
    )
 ·skip
  exfalso; first | omega | (rw [show IntKind.u64.bits = 64 from rfl] at *; omega)
theorem rput_ok {w0 : World} {H : List Chunk} (z : Int) (s : Nat) (z0 : 0 ≤ z) (z1 : z ≤ 18446744073709551615) (h64 : s ≤ 64) (hz : z.fdiv (2 ^ (min s 64)) ≤ 0) : SC Try.prog w0 10 #[.int .u64 z, .int .i64 s] H (fun v H' => ∃ a c, v = .tuple #[.slice a s c, .int .i64 0] ∧ H' = .row a s c 5 1 ((bitsS z s).map (.int .u8)) :: H) := by
 refine SC.enter Try.func10 rfl (Nat.le_of_ble_eq_true rfl) ?_
 refine SW.seq_k fun K0 hK0 => ?_
 refine SW.region _ _ _ _ ?_
 refine RL.p T ?_
 refine RL.p T ?_
 refine RL.nil _ _ _ _ ?_
 refine hK0 _ _ _ ?_
 refine SW.seq_k fun K1 hK1 => ?_
 refine SW.seq_k fun K2 hK2 => ?_
 refine SW.region _ _ _ _ ?_
 refine RL.p T ?_
 refine RL.p T ?_
 refine RL.p T ?_
 refine RL.join (fr1 := ?_) 2 8 false [9, 10] (fun hs0 hj => ?_) ?_ ?_
 rotate_left
 ·have hs0j := hs0
  try simp only [decide_eq_true_eq, Bool.not_eq_true', decide_eq_false_iff_not, Bool.not_eq_false', Int.not_lt, Int.not_le, Int.toNat_natCast, Bool.and_eq_true, Bool.or_eq_true, Bool.and_eq_false_iff, Bool.or_eq_false_iff] at hs0
  refine RL.p T ?_
  refine RL.p T ?_
  exact hj
 ·repeat first | exact Mx.refl | exact Mx.mix | refine Mx.put rfl ?_ | refine Mx.upd rfl ?_ | refine Mx.updl rfl ?_ | refine Mx.fin rfl ?_ | refine Mx.inner rfl ?_ | refine Mx.none ?_
 refine RL.or ?_
 refine RL.p T ?_
 refine RL.join (fr1 := ?_) 9 12 false [13, 14, 15, 16, 17, 18, 19, 20, 21] (fun hs1 hj => ?_) ?_ ?_
 rotate_left
 ·have hs1j := hs1
  try simp only [decide_eq_true_eq, Bool.not_eq_true', decide_eq_false_iff_not, Bool.not_eq_false', Int.not_lt, Int.not_le, Int.toNat_natCast, Bool.and_eq_true, Bool.or_eq_true, Bool.and_eq_false_iff, Bool.or_eq_false_iff] at hs1
  refine RL.p T ?_
  refine RL.p T ?_
  refine RL.p T ?_
  refine RL.join (fr1 := ?_) 5 15 true [16, 17, 18, 19, 20] (fun hs2 hj => ?_) ?_ ?_
  rotate_left
  ·have hs2j := hs2
   try simp only [decide_eq_true_eq, Bool.not_eq_true', decide_eq_false_iff_not, Bool.not_eq_false', Int.not_lt, Int.not_le, Int.toNat_natCast, Bool.and_eq_true, Bool.or_eq_true, Bool.and_eq_false_iff, Bool.or_eq_false_iff] at hs2
   refine RL.p T ?_
   refine RL.p T ?_
   first | refine RL.cv T ?_ | refine RL.p T ?_ | refine RL.ts T ?_
   refine RL.q (QV.shift rfl rfl rfl (by omega) (.inr ⟨rfl, rfl⟩)) ?_
   refine RL.p T ?_
   exact hj
  ·repeat first | exact Mx.refl | exact Mx.mix | refine Mx.put rfl ?_ | refine Mx.upd rfl ?_ | refine Mx.updl rfl ?_ | refine Mx.fin rfl ?_ | refine Mx.inner rfl ?_ | refine Mx.none ?_
  refine RL.and ?_
  exact hj
 ·repeat first | exact Mx.refl | exact Mx.mix | refine Mx.put rfl ?_ | refine Mx.upd rfl ?_ | refine Mx.updl rfl ?_ | refine Mx.fin rfl ?_ | refine Mx.inner rfl ?_ | refine Mx.none ?_
 refine RL.or ?_
 refine RL.nil _ _ _ _ ?_
 refine hK2 _ _ _ ?_
 refine SW.cs (fun hc0 => ?_) (fun hc0 => ?_)
 ·skip
  first
   | (exfalso; first | omega | (rw [show IntKind.u64.bits = 64 from rfl] at *; omega))
   | (
    refine SW.seq_k fun K3 hK3 => ?_
    refine SW.region _ _ _ _ ?_
    refine RL.p T ?_
    refine RL.p T ?_
    refine RL.nil _ _ _ _ ?_
    refine hK3 _ _ _ ?_
    refine SW.ret ?_
    refine retQ.rr _ ?_ (hH := fun w hw => hw)
    clear hK3 K3 hK2 K2 hK1 K1 hK0 K0
    exact ⟨_, _, rfl, rfl⟩
    )
 ·skip
  first
   | (exfalso; first | omega | (rw [show IntKind.u64.bits = 64 from rfl] at *; omega))
   | (
    refine SW.skip ?_
    refine hK1 _ _ _ ?_
    refine SW.seq_k fun K4 hK4 => ?_
    refine SW.region _ _ _ _ ?_
    refine RL.p T ?_
    refine RL.p T ?_
    refine RL.c fun24 (fun hs => rbits z s h64 z0 z1) ?_
    rintro _ _ ⟨ab, cb, rfl, e⟩; obtain rfl := e.symm
    refine RL.p T ?_
    refine RL.p T ?_
    refine RL.nil _ _ _ _ ?_
    refine hK4 _ _ _ ?_
    refine SW.ret ?_
    refine retQ.rr _ ?_ (hH := fun w hw => hw)
    clear hK4 K4 hK2 K2 hK1 K1 hK0 K0
    exact ⟨_, _, rfl, rfl⟩
    )
theorem rput {w0 : World} {H : List Chunk} (z s : Int) (z0 : 0 ≤ z) (z1 : z ≤ 18446744073709551615) : SC Try.prog w0 10 #[.int .u64 z, .int .i64 s] H (RV w0 H (putN z s).1 (putN z s).2) := by
  by_cases h : s < 0 ∨ 64 < s ∨ 0 < z.fdiv (2 ^ (min s.toNat 64))
  · rw [show putN z s = ([], 2) from if_pos h]
    exact (rput_bad z s z0 z1 h).mono (by rintro _ _ ⟨rfl, rfl⟩; exact ⟨_, rfl, Res.nil⟩)
  · rw [show putN z s = (bitsS z s.toNat, 0) from if_neg h]
    obtain ⟨m, rfl⟩ : ∃ m : Nat, s = m := ⟨s.toNat, by omega⟩
    simp only [Int.toNat_natCast] at h ⊢
    refine SC.satR ((rput_ok z m z0 z1 (by omega) (by omega)).mono ?_)
    rintro v _ ⟨a, c, rfl, rfl⟩ hs
    exact ⟨_, rfl, by have := bitsS_length z m; exact Res.row (n := m) hs (At.head _ _) (G := [_]) rfl⟩
theorem rowByte {w0 : World} {H : List Chunk} (b : Nat) (z : Int) (z0 : 0 ≤ z) (z1 : z ≤ 255) (a : Option Addr) (n c : Nat) (xs : List Int) (hn : n = xs.length) (hm : n ≤ 140737488300000) : SC Try.prog w0 31 #[.pointer (some ⟨b, 0, none⟩), .int .u8 z] (.var b 44 [.slice a n c] :: .row a n c 5 1 (xs.map (.int .u8)) :: H) (fun v H' => ∃ a' n' c', n' = n + 8 ∧ H' = (.var b 44 [.slice a' n' c'] :: .row a' n' c' 5 1 ((xs ++ bitsS z 8).map (.int .u8)) :: H)) := by
 refine SC.enter Try.func31 rfl (Nat.le_of_ble_eq_true rfl) ?_
 refine SW.region _ _ _ _ ?_
 refine RL.p T ?_
 refine RL.p T ?_
 first | refine RL.cv T ?_ | refine RL.p T ?_ | refine RL.ts T ?_
 refine RL.c fun23 (fun hs => rowPut b z 8 z0 (by omega) (by omega) a n c xs hn hm) ?_
 rintro _ _ ⟨ar, nr, cr, hnr, e⟩; obtain rfl := e.symm
 refine RL.nil _ _ _ _ ?_
 try simp only [thenQ, blockQ, Nat.beq_refl, cond_true]
 refine retQ.nn _ ?_ (hH := fun w hw => hw)
 exact ⟨ar, nr, cr, hnr, rfl⟩
theorem eachByte {w0 : World} {H : List Chunk} (b : Nat) (sa : Option Addr) (n c : Nat) (es : List Int) (hR : Rd w0 H sa n c 1 (es.map (.int .u8))) (hn : n = es.length) (hm : n ≤ 140737488351232) (hb : Byte es) (h5 : n ≤ 65536) : SC Try.prog w0 25 #[.slice sa n c, .func (.func 31) #[.pointer (some ⟨b, 0, none⟩)] #[]] (.var b 44 [.slice none 0 0] :: .row none 0 0 5 1 (([] : List Int).map (.int .u8)) :: H) (fun v H' => ∃ a' n' c', n' = 8 * n ∧ H' = (.var b 44 [.slice a' n' c'] :: .row a' n' c' 5 1 ((bytesS es).map (.int .u8)) :: H)) := by
 refine SC.enter Try.func25 rfl (Nat.le_of_ble_eq_true rfl) ?_
 refine SW.seq_k fun K0 hK0 => ?_
 refine SW.region _ _ _ _ ?_
 refine RL.p T ?_
 refine RL.p T ?_
 refine RL.p T ?_
 refine RL.nil _ _ _ _ ?_
 refine hK0 _ _ _ ?_
 refine SW.block ?_
 refine SW.loopM (fun frB mm fr ds HH => ∃ (k : Nat) (a : Option Addr) (m cc : Nat), mm = n - k ∧ (k ≤ n ∧ (m = 8 * k)) ∧ FrIs [5, 8, 9, 10, 11, 12, 13, 14, 15] frB fr [(8, .int .i64 k)] ∧ ds = [] ∧ HH = (.var b 44 [.slice a m cc] :: .row a m cc 5 1 ((bytesS (es.take k)).map (.int .u8)) :: H)) (n := n - 0) ?_ ?_
 ·exact ⟨0, none, 0, 0, rfl, ⟨Nat.zero_le _, rfl⟩, (.cons rfl (.nil (by repeat first | exact Mx.refl | exact Mx.mix | refine Mx.put rfl ?_ | refine Mx.upd rfl ?_ | refine Mx.updl rfl ?_ | refine Mx.fin rfl ?_ | refine Mx.inner rfl ?_ | refine Mx.none ?_))), rfl, rfl⟩
 ·rintro mm fr ds HH ⟨k, a, m, cc, rfl, ⟨hk, hm8⟩, hFr, rfl, eHH⟩
  obtain rfl := eHH.symm
  obtain ⟨frU, rfl⟩ := hFr.eq
  clear hFr
  have hz := hb.get k
  have hbl := bytesS_len (es.take k)
  rw [List.length_take] at hbl
  refine SW.seq_k fun K1 hK1 => ?_
  refine SW.region _ _ _ _ ?_
  refine RL.p T ?_
  refine RL.nil _ _ _ _ ?_
  refine hK1 _ _ _ ?_
  refine SW.seq_k fun K2 hK2 => ?_
  refine SW.cs (fun hc0 => ?_) (fun hc0 => ?_)
  ·skip
   refine SW.skip ?_
   refine hK2 _ _ _ ?_
   refine SW.seq_k fun K3 hK3 => ?_
   refine SW.block ?_
   refine SW.seq_k fun K4 hK4 => ?_
   refine SW.region _ _ _ _ ?_
   refine RL.ix T ?_ (hR := fun hs => hR.cons.cons)
   refine RL.le T ?_ (hR := fun hs => hR.cons.cons)
   refine RL.p T ?_
   refine RL.nil _ _ _ _ ?_
   refine hK4 _ _ _ ?_
   refine SW.region _ _ _ _ ?_
   refine RL.p T ?_
   refine RL.p T ?_
   refine RL.c fun31 (fun hs => rowByte b (es.getD k 0) (by omega) (by omega) _ _ _ _ (by omega) (by omega)) ?_
   rintro _ _ ⟨ar, nr, cr, hnr, e⟩; obtain rfl := e.symm
   refine RL.nil _ _ _ _ ?_
   refine hK3 _ _ _ ?_
   refine SW.region _ _ _ _ ?_
   first | refine RL.ar ?_ | refine RL.p T ?_
   refine RL.p T ?_
   refine RL.nil _ _ _ _ ?_
   exact ⟨n - (k + 1), (by omega), k + 1, ar, nr, cr, (by rfl), ⟨by omega, by omega⟩, (.cons rfl (.nil (by repeat first | exact Mx.refl | exact Mx.mix | refine Mx.put rfl ?_ | refine Mx.upd rfl ?_ | refine Mx.updl rfl ?_ | refine Mx.fin rfl ?_ | refine Mx.inner rfl ?_ | refine Mx.none ?_))), rfl, (by rw [bytesS_take (by omega)])⟩
  ·skip
   refine SW.exit ?_
   try simp only [thenQ, blockQ, Nat.beq_refl, cond_true]
   refine retQ.nn _ ?_ (hH := fun w hw => hw)
   clear hK2 K2 hK1 K1 hK0 K0
   refine ⟨a, m, cc, by omega, ?_⟩
   rw [List.take_of_length_le (by omega)]
theorem bytesA {w0 : World} {H : List Chunk} (sa : Option Addr) (n c : Nat) (es : List Int) (hR : Rd w0 H sa n c 1 (es.map (.int .u8))) (hn : n = es.length) (hm : n ≤ 140737488351232) (hb : Byte es) (h5 : n ≤ 65536) : SC Try.prog w0 19 #[.slice sa n c] H (fun v H' => ∃ a' n' c', n' = 8 * n ∧ v = .slice a' n' c' ∧ H' = .row a' n' c' 5 1 ((bytesS es).map (.int .u8)) :: H) := by
 refine SC.enter Try.func19 rfl (Nat.le_of_ble_eq_true rfl) ?_
 refine SW.seq_k fun K0 hK0 => ?_
 refine SW.region _ _ _ _ ?_
 refine RL.p T ?_
 refine RL.nil _ _ _ _ ?_
 refine hK0 _ _ _ ?_
 refine SW.seq_k fun K1 hK1 => ?_
 refine SW.region _ _ _ _ ?_
 refine RL.s ?_
 refine NV.alloc T rfl rfl rfl (by exact (rfl : _ = [_])) ?_
 intro b3_0
 refine RL.nil _ _ _ _ ?_
 refine hK1 _ _ _ ?_
 refine SW.seq_k fun K2 hK2 => ?_
 refine SW.region _ _ _ _ ?_
 refine RL.p T ?_
 refine RL.p T ?_
 refine RL.c fun25 (fun hs => (SC.swap (eachByte _ sa n c es hR hn hm hb h5)).nilrow 5 1) ?_
 rintro _ _ ⟨ar, nr, cr, hnr, e⟩; obtain rfl := e.symm
 refine RL.nil _ _ _ _ ?_
 refine hK2 _ _ _ ?_
 refine SW.seq_k fun K3 hK3 => ?_
 refine SW.region _ _ _ _ ?_
 refine RL.p T ?_
 refine RL.lv1 T ?_
 refine RL.p T ?_
 refine RL.nil _ _ _ _ ?_
 refine hK3 _ _ _ ?_
 refine SW.ret ?_
 refine retQ.rr (.row ar nr cr 5 1 ((bytesS es).map (.int .u8)) :: H) ?_
 clear hK3 K3 hK2 K2 hK1 K1 hK0 K0
 exact ⟨_, _, _, hnr, rfl, rfl⟩
theorem rbytesA {w0 : World} {H : List Chunk} (sa : Option Addr) (n c : Nat) (es : List Int) (hR : Rd w0 H sa n c 1 (es.map (.int .u8))) (hn : n = es.length) (hm : n ≤ 140737488351232) (hb : Byte es) (h5 : n ≤ 65536) : SC Try.prog w0 20 #[.slice sa n c] H (fun v H' => ∃ a' n' c', n' = 8 * n ∧ v = .slice a' n' c' ∧ H' = .row a' n' c' 5 1 ((bytesS es).map (.int .u8)) :: H) := by
 refine SC.enter Try.func20 rfl (Nat.le_of_ble_eq_true rfl) ?_
 refine SW.seq_k fun K0 hK0 => ?_
 refine SW.region _ _ _ _ ?_
 refine RL.p T ?_
 refine RL.nil _ _ _ _ ?_
 refine hK0 _ _ _ ?_
 refine SW.seq_k fun K1 hK1 => ?_
 refine SW.region _ _ _ _ ?_
 refine RL.nilrow 5 1 ?_
 refine RL.p T ?_
 refine RL.nil _ _ _ _ ?_
 refine hK1 _ _ _ ?_
 refine SW.seq_k fun K2 hK2 => ?_
 refine SW.seq_k fun K3 hK3 => ?_
 refine SW.region _ _ _ _ ?_
 refine RL.p T ?_
 refine RL.p T ?_
 refine RL.p T ?_
 refine RL.nil _ _ _ _ ?_
 refine hK3 _ _ _ ?_
 refine SW.block ?_
 refine SW.loopM (fun frB mm fr ds HH => ∃ (k : Nat) (a : Option Addr) (m cc : Nat), mm = n - k ∧ (k ≤ n ∧ (m = 8 * k)) ∧ FrIs [3, 5, 8, 9, 10, 11, 12, 13, 14, 15, 16, 17] frB fr [(8, .int .i64 k), (3, .slice a m cc)] ∧ ds = [] ∧ HH = (.row a m cc 5 1 ((bytesS (es.take k)).map (.int .u8)) :: H)) (n := n - 0) ?_ ?_
 ·exact ⟨0, none, 0, 0, rfl, ⟨Nat.zero_le _, rfl⟩, (.cons rfl (.cons rfl (.nil (by repeat first | exact Mx.refl | exact Mx.mix | refine Mx.put rfl ?_ | refine Mx.upd rfl ?_ | refine Mx.updl rfl ?_ | refine Mx.fin rfl ?_ | refine Mx.inner rfl ?_ | refine Mx.none ?_)))), rfl, rfl⟩
 ·rintro mm fr ds HH ⟨k, a, m, cc, rfl, ⟨hk, hm8⟩, hFr, rfl, eHH⟩
  obtain rfl := eHH.symm
  obtain ⟨frU, rfl⟩ := hFr.eq
  clear hFr
  have hz := hb.get k
  refine SW.seq_k fun K4 hK4 => ?_
  refine SW.region _ _ _ _ ?_
  refine RL.p T ?_
  refine RL.nil _ _ _ _ ?_
  refine hK4 _ _ _ ?_
  refine SW.seq_k fun K5 hK5 => ?_
  refine SW.cs (fun hc0 => ?_) (fun hc0 => ?_)
  ·skip
   refine SW.skip ?_
   refine hK5 _ _ _ ?_
   refine SW.seq_k fun K6 hK6 => ?_
   refine SW.block ?_
   refine SW.seq_k fun K7 hK7 => ?_
   refine SW.region _ _ _ _ ?_
   refine RL.ix T ?_ (hR := fun hs => hR.cons)
   refine RL.le T ?_ (hR := fun hs => hR.cons)
   refine RL.p T ?_
   refine RL.nil _ _ _ _ ?_
   refine hK7 _ _ _ ?_
   refine SW.region _ _ _ _ ?_
   refine RL.p T ?_
   refine RL.p T ?_
   first | refine RL.cv T ?_ | refine RL.p T ?_ | refine RL.ts T ?_
   refine RL.c fun24 (fun hs => rbits (es.getD k 0) 8 (by omega) (by omega) (by omega)) ?_
   rintro _ _ ⟨ab, cb, rfl, e⟩; obtain rfl := e.symm
   refine RL.s ?_
   refine NV.sat (fun hs => ?_) (fun c hc => by cases hc)
   refine NV.append T rfl rfl rfl rfl rfl rfl rfl rfl rfl rfl (by repeat first | exact At.head _ _ | apply At.tail) (Rd.rowh hs (At.head _ _)) (ones_map _ _) (by unfold maxLen; omega) (by show (m + 8) * 1 ≤ _; omega) ?_
   intro a2 c2
   refine RL.drop ?_
   refine RL.p T ?_
   refine RL.nil _ _ _ _ ?_
   refine hK6 _ _ _ ?_
   refine SW.region _ _ _ _ ?_
   first | refine RL.ar ?_ | refine RL.p T ?_
   refine RL.p T ?_
   refine RL.nil _ _ _ _ ?_
   exact ⟨n - (k + 1), (by omega), k + 1, _, m + 8, _, (by rfl), ⟨by omega, by omega⟩, (.cons rfl (.cons rfl (.nil (by repeat first | exact Mx.refl | exact Mx.mix | refine Mx.put rfl ?_ | refine Mx.upd rfl ?_ | refine Mx.updl rfl ?_ | refine Mx.fin rfl ?_ | refine Mx.inner rfl ?_ | refine Mx.none ?_)))), rfl, (by rw [bytesS_take (by omega), List.map_append]; rfl)⟩
  ·skip
   refine SW.exit ?_
   refine hK2 _ _ _ ?_
   refine SW.seq_k fun K8 hK8 => ?_
   refine SW.region _ _ _ _ ?_
   refine RL.p T ?_
   refine RL.p T ?_
   refine RL.nil _ _ _ _ ?_
   refine hK8 _ _ _ ?_
   refine SW.ret ?_
   refine retQ.rr _ ?_ (hH := fun w hw => hw)
   clear hK8 K8 hK5 K5 hK4 K4 hK3 K3 hK2 K2 hK1 K1 hK0 K0
   refine ⟨a, m, cc, by omega, rfl, ?_⟩
   rw [List.take_of_length_le (by omega)]
end Go.Proofs.Ytokihacnhefbfaa.M
