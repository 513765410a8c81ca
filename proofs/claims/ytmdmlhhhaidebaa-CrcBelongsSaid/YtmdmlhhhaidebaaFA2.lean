import Derived.Test.YtmdmlhhhaidebaaProg
import Derived.Test.YtmdmlhhhaidebaaP2
import Derived.Test.YtmdmlhhhaidebaaS20
set_option linter.unusedVariables false
set_option linter.unusedSimpArgs false
namespace Go.Proofs.Ytmdmlhhhaidebaa.M
open Go Go.Sep Go.Proofs
set_option maxRecDepth 10000
set_option maxHeartbeats 2000000
noncomputable def T : Tab Try.prog := ⟨Try.prog.info?, Try.prog.underlying, fun _ _ h => h, fun _ _ h => h⟩
theorem mixed : Try.prog.follows .mixedOrders = true := by kernel_rfl
theorem fun3 : Fun Try.prog 3 := Fun.mk Try.func3 (by kernel_rfl) (by kernel_rfl)
theorem fun4 : Fun Try.prog 4 := Fun.mk Try.func4 (by kernel_rfl) (by kernel_rfl)
theorem fun5 : Fun Try.prog 5 := Fun.mk Try.func5 (by kernel_rfl) (by kernel_rfl)
theorem fun6 : Fun Try.prog 6 := Fun.mk Try.func6 (by kernel_rfl) (by kernel_rfl)
theorem fun7 : Fun Try.prog 7 := Fun.mk Try.func7 (by kernel_rfl) (by kernel_rfl)
theorem fun8 : Fun Try.prog 8 := Fun.mk Try.func8 (by kernel_rfl) (by kernel_rfl)
theorem fun9 : Fun Try.prog 9 := Fun.mk Try.func9 (by kernel_rfl) (by kernel_rfl)
theorem fun10 : Fun Try.prog 10 := Fun.mk Try.func10 (by kernel_rfl) (by kernel_rfl)
theorem fun11 : Fun Try.prog 11 := Fun.mk Try.func11 (by kernel_rfl) (by kernel_rfl)
theorem fun12 : Fun Try.prog 12 := Fun.mk Try.func12 (by kernel_rfl) (by kernel_rfl)
theorem fun13 : Fun Try.prog 13 := Fun.mk Try.func13 (by kernel_rfl) (by kernel_rfl)
theorem fun14 : Fun Try.prog 14 := Fun.mk Try.func14 (by kernel_rfl) (by kernel_rfl)
theorem fun15 : Fun Try.prog 15 := Fun.mk Try.func15 (by kernel_rfl) (by kernel_rfl)
theorem fun16 : Fun Try.prog 16 := Fun.mk Try.func16 (by kernel_rfl) (by kernel_rfl)
theorem fun17 : Fun Try.prog 17 := Fun.mk Try.func17 (by kernel_rfl) (by kernel_rfl)
theorem fun18 : Fun Try.prog 18 := Fun.mk Try.func18 (by kernel_rfl) (by kernel_rfl)
theorem fun19 : Fun Try.prog 19 := Fun.mk Try.func19 (by kernel_rfl) (by kernel_rfl)
theorem fun20 : Fun Try.prog 20 := Fun.mk Try.func20 (by kernel_rfl) (by kernel_rfl)
theorem fun21 : Fun Try.prog 21 := Fun.mk Try.func21 (by kernel_rfl) (by kernel_rfl)
theorem fun22 : Fun Try.prog 22 := Fun.mk Try.func22 (by kernel_rfl) (by kernel_rfl)
theorem fun23 : Fun Try.prog 23 := Fun.mk Try.func23 (by kernel_rfl) (by kernel_rfl)
theorem fun24 : Fun Try.prog 24 := Fun.mk Try.func24 (by kernel_rfl) (by kernel_rfl)
theorem fun25 : Fun Try.prog 25 := Fun.mk Try.func25 (by kernel_rfl) (by kernel_rfl)
theorem fun26 : Fun Try.prog 26 := Fun.mk Try.func26 (by kernel_rfl) (by kernel_rfl)
theorem fun27 : Fun Try.prog 27 := Fun.mk Try.func27 (by kernel_rfl) (by kernel_rfl)
theorem fun28 : Fun Try.prog 28 := Fun.mk Try.func28 (by kernel_rfl) (by kernel_rfl)
theorem fun29 : Fun Try.prog 29 := Fun.mk Try.func29 (by kernel_rfl) (by kernel_rfl)
theorem fun30 : Fun Try.prog 30 := Fun.mk Try.func30 (by kernel_rfl) (by kernel_rfl)
theorem fun31 : Fun Try.prog 31 := Fun.mk Try.func31 (by kernel_rfl) (by kernel_rfl)
theorem fun32 : Fun Try.prog 32 := Fun.mk Try.func32 (by kernel_rfl) (by kernel_rfl)
theorem fun33 : Fun Try.prog 33 := Fun.mk Try.func33 (by kernel_rfl) (by kernel_rfl)
theorem fun34 : Fun Try.prog 34 := Fun.mk Try.func34 (by kernel_rfl) (by kernel_rfl)
theorem fun35 : Fun Try.prog 35 := Fun.mk Try.func35 (by kernel_rfl) (by kernel_rfl)
theorem fun36 : Fun Try.prog 36 := Fun.mk Try.func36 (by kernel_rfl) (by kernel_rfl)
theorem fun37 : Fun Try.prog 37 := Fun.mk Try.func37 (by kernel_rfl) (by kernel_rfl)
theorem fun38 : Fun Try.prog 38 := Fun.mk Try.func38 (by kernel_rfl) (by kernel_rfl)
theorem fun39 : Fun Try.prog 39 := Fun.mk Try.func39 (by kernel_rfl) (by kernel_rfl)
theorem fun40 : Fun Try.prog 40 := Fun.mk Try.func40 (by kernel_rfl) (by kernel_rfl)
theorem fun41 : Fun Try.prog 41 := Fun.mk Try.func41 (by kernel_rfl) (by kernel_rfl)
theorem fun42 : Fun Try.prog 42 := Fun.mk Try.func42 (by kernel_rfl) (by kernel_rfl)
theorem fun43 : Fun Try.prog 43 := Fun.mk Try.func43 (by kernel_rfl) (by kernel_rfl)
theorem one {w0 : World} {H : List Chunk} (z p st : Nat) (hz : 4 ≤ z) (hz2 : z ≤ 32) (hp : p < 2 ^ z) (s : Nat) (b : Int) (hs : s < 2 ^ z) (b0 : 0 ≤ b ∧ b ≤ 1) : SC Try.prog w0 37 #[.agg #[.int .i64 (z : Nat), .int .u64 (p : Nat), .int .u64 (st : Nat)], .int .u64 ((s : Nat) : Int), .int .u8 b] H (fun v H' => v = .int .u64 ((stepN z p s b : Nat) : Int) ∧ H' = H) := by
 refine SC.enter Try.func37 rfl (Nat.le_of_ble_eq_true rfl) ?_
 refine SW.seq_k fun K0 hK0 => ?_
 have h64 : (2 : Nat) ^ z < 2 ^ 64 := Nat.pow_lt_pow_right (by omega) (by omega)
 have hm : 2 * s % 2 ^ z < 2 ^ z := Nat.mod_lt _ (Nat.pow_pos (by omega))
 have e2 : s * 2 ^ 1 % 2 ^ 64 % 2 ^ z = 2 * s % 2 ^ z := by rw [Nat.mod_mod_of_dvd _ (Nat.pow_dvd_pow 2 (by omega)), Nat.mul_comm]
 refine SW.region _ _ _ _ ?_
 refine RL.s ?_
 refine NV.box rfl (by exact (rfl : _ = [_, _, _])) ?_
 intro b3_0
 refine RL.p T ?_
 refine RL.nil _ _ _ _ ?_
 refine hK0 _ _ _ ?_
 refine SW.seq_k fun K1 hK1 => ?_
 refine SW.region _ _ _ _ ?_
 refine RL.p T ?_
 refine RL.p T ?_
 refine RL.lv1 T ?_
 first | refine RL.ar ?_ | refine RL.p T ?_
 refine RL.q (QV.shrN (s := z - 1) rfl rfl rfl (by omega) (by omega)) ?_
 refine RL.q (QV.and1 T rfl rfl rfl (by have := Nat.div_le_self s (2 ^ (z - 1)); omega)) ?_
 first | refine RL.cv T ?_ | refine RL.p T ?_ | refine RL.ts T ?_
 refine RL.p T ?_
 refine RL.nil _ _ _ _ ?_
 refine hK1 _ _ _ ?_
 refine SW.seq_k fun K2 hK2 => ?_
 refine SW.region _ _ _ _ ?_
 refine RL.p T ?_
 refine RL.q (QV.shlN (s := 1) rfl rfl rfl rfl (by omega)) ?_
 refine RL.p T ?_
 refine RL.lv1 T ?_
 refine RL.q (QV.one_shl (s := z) rfl rfl rfl rfl (by omega)) ?_
 refine RL.q (QV.sub1 T rfl rfl rfl (Nat.pow_pos (by omega)) h64) ?_
 refine RL.q (QV.mask (z := z) T rfl rfl rfl (Nat.mod_lt _ (by decide)) (by omega)) ?_
 rw [e2]
 refine RL.p T ?_
 refine RL.nil _ _ _ _ ?_
 refine hK2 _ _ _ ?_
 refine SW.seq_k fun K3 hK3 => ?_
 refine SW.seq_k fun K4 hK4 => ?_
 refine SW.region _ _ _ _ ?_
 refine RL.p T ?_
 refine RL.p T ?_
 refine RL.p T ?_
 refine RL.nil _ _ _ _ ?_
 refine hK4 _ _ _ ?_
 refine SW.cs (fun hc0 => ?_) (fun hc0 => ?_)
 ·skip
  refine SW.region _ _ _ _ ?_
  refine RL.p T ?_
  refine RL.p T ?_
  refine RL.lv1 T ?_
  refine RL.q (QV.xorN T rfl rfl rfl (by omega) (by omega)) ?_
  refine RL.p T ?_
  refine RL.nil _ _ _ _ ?_
  refine hK3 _ _ _ ?_
  refine SW.seq_k fun K5 hK5 => ?_
  refine SW.region _ _ _ _ ?_
  refine RL.p T ?_
  refine RL.p T ?_
  refine RL.nil _ _ _ _ ?_
  refine hK5 _ _ _ ?_
  refine SW.ret ?_
  refine retQ.rr (H) ?_
  clear hK5 K5 hK4 K4 hK3 K3 hK2 K2 hK1 K1 hK0 K0
  first
    | exact ⟨by rw [stepN, if_neg (by omega)]; rfl, rfl⟩
    | exact ⟨by rw [stepN, if_pos (by omega)]; rfl, rfl⟩
 ·skip
  refine SW.skip ?_
  refine hK3 _ _ _ ?_
  refine SW.seq_k fun K6 hK6 => ?_
  refine SW.region _ _ _ _ ?_
  refine RL.p T ?_
  refine RL.p T ?_
  refine RL.nil _ _ _ _ ?_
  refine hK6 _ _ _ ?_
  refine SW.ret ?_
  refine retQ.rr (H) ?_
  clear hK6 K6 hK4 K4 hK3 K3 hK2 K2 hK1 K1 hK0 K0
  first
    | exact ⟨by rw [stepN, if_neg (by omega)]; rfl, rfl⟩
    | exact ⟨by rw [stepN, if_pos (by omega)]; rfl, rfl⟩
theorem all {w0 : World} {H : List Chunk} (z p st : Nat) (hz : 4 ≤ z) (hz2 : z ≤ 32) (hp : p < 2 ^ z) (s : Nat) (hs : s < 2 ^ z) (sa : Option Addr) (n c : Nat) (es : List Int) (hR : Rd w0 H sa n c 1 (es.map (.int .u8))) (hn : n = es.length) (hm : n ≤ 140737488351232) (hb : Bit es) : SC Try.prog w0 36 #[.int .u64 ((s : Nat) : Int), .slice sa n c, (.func (.func 37) #[.agg #[.int .i64 (z : Nat), .int .u64 (p : Nat), .int .u64 (st : Nat)]] #[])] H (fun v H' => v = .int .u64 ((crcN z p s es : Nat) : Int) ∧ H' = H) := by
 refine SC.enter Try.func36 rfl (Nat.le_of_ble_eq_true rfl) ?_
 refine SW.seq_k fun K0 hK0 => ?_
 refine SW.region _ _ _ _ ?_
 refine RL.p T ?_
 refine RL.nil _ _ _ _ ?_
 refine hK0 _ _ _ ?_
 refine SW.seq_k fun K1 hK1 => ?_
 refine SW.seq_k fun K2 hK2 => ?_
 refine SW.region _ _ _ _ ?_
 refine RL.p T ?_
 refine RL.p T ?_
 refine RL.p T ?_
 refine RL.nil _ _ _ _ ?_
 refine hK2 _ _ _ ?_
 refine SW.block ?_
 refine SW.loopM (fun frB mm fr ds HH => ∃ (k : Nat) , mm = n - k ∧ (k ≤ n ∧ (True)) ∧ FrIs [0, 8, 11, 12, 13, 14, 15, 16, 17, 18, 19] frB fr [(11, .int .i64 k), (0, .int .u64 ((crcN z p s (es.take k) : Nat) : Int))] ∧ ds = [] ∧ HH = H) (n := n - 0) ?_ ?_
 ·exact ⟨0, rfl, ⟨Nat.zero_le _, trivial⟩, (.cons rfl (.cons rfl (.nil (by repeat first | exact Mx.refl | exact Mx.mix | refine Mx.put rfl ?_ | refine Mx.upd rfl ?_ | refine Mx.updl rfl ?_ | refine Mx.fin rfl ?_ | refine Mx.inner rfl ?_ | refine Mx.none ?_)))), rfl, rfl⟩
 ·rintro mm fr ds HH ⟨k, rfl, ⟨hk, _⟩, hFr, rfl, eHH⟩
  obtain rfl := eHH.symm
  obtain ⟨frU, rfl⟩ := hFr.eq
  clear hFr
  have hz0 := hb k
  have hlt := crcN_lt hp (es.take k) s hs
  refine SW.seq_k fun K3 hK3 => ?_
  refine SW.region _ _ _ _ ?_
  refine RL.p T ?_
  refine RL.nil _ _ _ _ ?_
  refine hK3 _ _ _ ?_
  refine SW.seq_k fun K4 hK4 => ?_
  refine SW.cs (fun hc0 => ?_) (fun hc0 => ?_)
  ·skip
   refine SW.skip ?_
   refine hK4 _ _ _ ?_
   refine SW.seq_k fun K5 hK5 => ?_
   refine SW.block ?_
   refine SW.seq_k fun K6 hK6 => ?_
   refine SW.region _ _ _ _ ?_
   refine RL.ix T ?_ (hR := fun hs => hR)
   refine RL.le T ?_ (hR := fun hs => hR)
   refine RL.p T ?_
   refine RL.nil _ _ _ _ ?_
   refine hK6 _ _ _ ?_
   refine SW.region _ _ _ _ ?_
   refine RL.p T ?_
   refine RL.p T ?_
   refine RL.p T ?_
   refine RL.c fun37 (fun hs => one z p st hz hz2 hp (crcN z p s (es.take k)) (es.getD k 0) hlt hz0) ?_
   rintro _ _ ⟨rfl, e⟩; obtain rfl := e.symm
   rw [← crcN_take (by omega)]
   refine RL.p T ?_
   refine RL.nil _ _ _ _ ?_
   refine hK5 _ _ _ ?_
   refine SW.region _ _ _ _ ?_
   first | refine RL.ar ?_ | refine RL.p T ?_
   refine RL.p T ?_
   refine RL.nil _ _ _ _ ?_
   exact ⟨n - (k + 1), (by omega), k + 1, (by rfl), ⟨by omega, trivial⟩, (.cons rfl (.cons rfl (.nil (by repeat first | exact Mx.refl | exact Mx.mix | refine Mx.put rfl ?_ | refine Mx.upd rfl ?_ | refine Mx.updl rfl ?_ | refine Mx.fin rfl ?_ | refine Mx.inner rfl ?_ | refine Mx.none ?_)))), rfl, rfl⟩
  ·skip
   refine SW.exit ?_
   refine hK1 _ _ _ ?_
   refine SW.seq_k fun K7 hK7 => ?_
   refine SW.region _ _ _ _ ?_
   refine RL.p T ?_
   refine RL.p T ?_
   refine RL.nil _ _ _ _ ?_
   refine hK7 _ _ _ ?_
   refine SW.ret ?_
   refine retQ.rr (H) ?_
   clear hK7 K7 hK4 K4 hK3 K3 hK2 K2 hK1 K1 hK0 K0
   obtain rfl : k = n := by omega
   exact ⟨by rw [List.take_of_length_le (by omega)]; rfl, rfl⟩
theorem table {w0 : World} {H : List Chunk} (z p st : Nat) (hz : 4 ≤ z) (hz2 : z ≤ 32) (hp : p < 2 ^ z) : SC Try.prog w0 34 #[.agg #[.int .i64 (z : Nat), .int .u64 (p : Nat), .int .u64 (st : Nat)]] H (fun v H' => v = .agg ((tabL z p 16).map (.int .u64)).toArray ∧ H' = H) := by
 refine SC.enter Try.func34 rfl (Nat.le_of_ble_eq_true rfl) ?_
 refine SW.seq_k fun K0 hK0 => ?_
 have h64 : (2 : Nat) ^ z < 2 ^ 64 := Nat.pow_lt_pow_right (by omega) (by omega)
 refine SW.region _ _ _ _ ?_
 refine RL.s ?_
 refine NV.box rfl (by exact (rfl : _ = [_, _, _])) ?_
 intro b1_0
 refine RL.s ?_
 refine NV.alloc T rfl rfl rfl (by exact (rfl : _ = [_, _, _, _, _, _, _, _, _, _, _, _, _, _, _, _])) ?_
 intro b2_1
 refine RL.nil _ _ _ _ ?_
 refine hK0 _ _ _ ?_
 refine SW.seq_k fun K1 hK1 => ?_
 refine SW.seq_k fun K2 hK2 => ?_
 refine SW.region _ _ _ _ ?_
 refine RL.p T ?_
 refine RL.nil _ _ _ _ ?_
 refine hK2 _ _ _ ?_
 refine SW.block ?_
 refine SW.loopM (fun frB mm fr ds HH => ∃ (k : Nat) , mm = 16 - k ∧ (k ≤ 16 ∧ (True)) ∧ FrIs [3, 4, 5, 6, 7, 8, 9, 10, 11, 12, 13, 14, 15, 16, 17, 18, 19] frB fr [(4, .int .i64 k)] ∧ ds = [] ∧ HH = (.var b2_1 63 ((tabL z p k).map (.int .u64)) :: .var b1_0 51 [.int .i64 (z : Nat), .int .u64 (p : Nat), .int .u64 (st : Nat)] :: H)) (n := 16 - 0) ?_ ?_
 ·exact ⟨0, rfl, ⟨Nat.zero_le _, trivial⟩, (.cons rfl (.nil (by repeat first | exact Mx.refl | exact Mx.mix | refine Mx.put rfl ?_ | refine Mx.upd rfl ?_ | refine Mx.updl rfl ?_ | refine Mx.fin rfl ?_ | refine Mx.inner rfl ?_ | refine Mx.none ?_))), rfl, rfl⟩
 ·rintro mm fr ds HH ⟨k, rfl, ⟨hk, _⟩, hFr, rfl, eHH⟩
  obtain rfl := eHH.symm
  obtain ⟨frU, rfl⟩ := hFr.eq
  clear hFr
  have e3 : 2 ^ z = 2 ^ (z - 4) * 16 := by rw [show (16 : Nat) = 2 ^ 4 from rfl, ← Nat.pow_add]; congr 1; omega
  refine SW.seq_k fun K3 hK3 => ?_
  refine SW.region _ _ _ _ ?_
  refine RL.p T ?_
  refine RL.nil _ _ _ _ ?_
  refine hK3 _ _ _ ?_
  refine SW.seq_k fun K4 hK4 => ?_
  refine SW.cs (fun hc0 => ?_) (fun hc0 => ?_)
  ·skip
   refine SW.skip ?_
   refine hK4 _ _ _ ?_
   refine SW.seq_k fun K5 hK5 => ?_
   refine SW.block ?_
   refine SW.seq_k fun K6 hK6 => ?_
   refine SW.region _ _ _ _ ?_
   refine RL.p T ?_
   refine RL.p T ?_
   refine RL.nil _ _ _ _ ?_
   refine hK6 _ _ _ ?_
   have hlt : k * 2 ^ (z - 4) < 2 ^ z := by rw [e3, Nat.mul_comm]; exact Nat.mul_lt_mul_of_pos_left (by omega) (Nat.pow_pos (by omega))
   have hks : k * 2 ^ (z - 4) % 2 ^ 64 = k * 2 ^ (z - 4) := Nat.mod_eq_of_lt (by omega)
   refine SW.draw [(7, 0), (8, 1), (9, 2), (10, 3), (11, 4), (12, 5), (13, 6), (14, 7), (15, 8), (16, 9), (17, 10), (18, 11)] [[], [], [1], [], [3], [4, 3], [2, 1, 5, 4, 3], [], [], [8], [6, 2, 1, 5, 4, 3, 7, 9, 8], [0, 1, 2, 3, 4, 5, 6, 7, 8, 9, 10], [11, 0, 1, 2, 3, 4, 5, 6, 7, 8, 9, 10]] mixed (by kernel_rfl) (by kernel_rfl) ?_
   refine RD.q rfl rfl (Gd.none rfl) (pev_sound T (by conv => lhs; whnf; arg 1; whnf)) ?_
   refine RD.q rfl rfl (Gd.none rfl) (pev_sound T (by conv => lhs; whnf; arg 1; whnf)) ?_
   refine RD.q rfl rfl (Gd.none rfl) (QV.convI T rfl rfl rfl rfl (by simp only [loK]; omega) (by simp only [hiK]; omega)) ?_
   refine RD.q rfl rfl (Gd.none rfl) (pev_sound T (by conv => lhs; whnf; arg 1; whnf)) ?_
   refine RD.q rfl rfl (Gd.none rfl) (by first | exact QV.load_var1 T rfl rfl rfl rfl (by repeat first | exact At.head _ _ | assumption | exact At.put (by assumption) _ | apply At.tail | apply At.app) rfl | exact QV.load_varN T rfl rfl rfl rfl rfl (by repeat first | exact At.head _ _ | assumption | exact At.put (by assumption) _ | apply At.tail | apply At.app) (by exact (rfl : _ = [_])) rfl | exact QV.load_elem T rfl rfl rfl rfl (by assumption) (by first | exact map_get _ _ (by omega) | assumption)) ?_
   refine RD.q rfl rfl (Gd.none rfl) (by first | exact QV.arith rfl rfl rfl rfl (by omega) (by omega) | exact QV.arith_u8 rfl rfl rfl rfl (by omega) (by omega) | exact QV.arith_u16 rfl rfl rfl rfl (by omega) (by omega) | exact QV.arith_u32 rfl rfl rfl rfl (by omega) (by omega) | exact QV.arith_u64 rfl rfl rfl rfl (by omega) (by omega) | exact pev_sound T rfl) ?_
   refine RD.q rfl rfl (Gd.none rfl) (QV.as (QV.shlN (a := k) (s := z - 4) rfl rfl rfl (by omega) (by omega)) (by rw [hks]; try rfl)) ?_
   refine RD.q rfl rfl (Gd.none rfl) (by first | exact QV.load_var1 T rfl rfl rfl rfl (by repeat first | exact At.head _ _ | assumption | exact At.put (by assumption) _ | apply At.tail | apply At.app) rfl | exact QV.load_varN T rfl rfl rfl rfl rfl (by repeat first | exact At.head _ _ | assumption | exact At.put (by assumption) _ | apply At.tail | apply At.app) (by exact (rfl : _ = [_, _, _])) rfl | exact QV.load_elem T rfl rfl rfl rfl (by assumption) (by first | exact map_get _ _ (by omega) | assumption)) ?_
   refine RD.q rfl rfl (Gd.none rfl) (pev_sound T (by conv => lhs; whnf; arg 1; whnf)) ?_
   refine RD.nv rfl rfl rfl (Gd.none rfl) ?_
   refine NV.makeSlice (n := 4) (c := 4) T rfl rfl rfl rfl rfl rfl rfl rfl (by omega) (Nat.le_of_ble_eq_true rfl) (Nat.le_of_ble_eq_true rfl) ?_
   intro b14_2
   refine ⟨(Stab.cons rfl (Gd.none rfl) (pev_sound T rfl) (Stab.cons rfl (Gd.none rfl) (by first | exact QV.load_var1 T rfl rfl rfl rfl (by repeat first | exact At.head _ _ | assumption | exact At.put (by assumption) _ | apply At.tail | apply At.app) rfl | exact QV.load_varN T rfl rfl rfl rfl rfl (by repeat first | exact At.head _ _ | assumption | exact At.put (by assumption) _ | apply At.tail | apply At.app) rfl rfl | exact QV.load_elem T rfl rfl rfl rfl (by assumption) (by first | exact map_get _ _ (by omega) | assumption)) (Stab.cons rfl (Gd.none rfl) (QV.as (QV.shlN (a := k) (s := z - 4) rfl rfl rfl (by omega) (by omega)) (by rw [hks]; try rfl)) (Stab.cons rfl (Gd.none rfl) (by first | exact pev_sound T rfl | exact QV.arith rfl rfl rfl rfl (by omega) (by omega) | exact QV.arith_u8 rfl rfl rfl rfl (by omega) (by omega) | exact QV.arith_u16 rfl rfl rfl rfl (by omega) (by omega) | exact QV.arith_u32 rfl rfl rfl rfl (by omega) (by omega) | exact QV.arith_u64 rfl rfl rfl rfl (by omega) (by omega) ) (Stab.cons rfl (Gd.none rfl) (by first | exact QV.load_var1 T rfl rfl rfl rfl (by repeat first | exact At.head _ _ | assumption | exact At.put (by assumption) _ | apply At.tail | apply At.app) rfl | exact QV.load_varN T rfl rfl rfl rfl rfl (by repeat first | exact At.head _ _ | assumption | exact At.put (by assumption) _ | apply At.tail | apply At.app) rfl rfl | exact QV.load_elem T rfl rfl rfl rfl (by assumption) (by first | exact map_get _ _ (by omega) | assumption)) (Stab.cons rfl (Gd.none rfl) (pev_sound T rfl) (Stab.cons rfl (Gd.none rfl) (QV.convI T rfl rfl rfl rfl (by simp only [loK]; omega) (by simp only [hiK]; omega)) (Stab.cons rfl (Gd.none rfl) (pev_sound T rfl) (Stab.cons rfl (Gd.none rfl) (pev_sound T rfl) Stab.nil))))))))), ?_⟩
   refine RD.nv rfl rfl rfl (Gd.none rfl) ?_
   refine NV.sat (fun hs => ?_) (fun c hc => by cases hc)
   refine NV.call rfl rfl rfl fun36 rfl rfl (all z p st hz hz2 hp (k * 2 ^ (z - 4)) hlt _ 4 4 [0, 0, 0, 0] (Rd.rowh hs (At.head _ _)) rfl (by omega) (bit_rep 4)) ?_
   rintro _ _ ⟨rfl, e⟩; obtain rfl := e.symm
   refine ⟨(Stab.cons rfl (Gd.none rfl) (pev_sound T rfl) Stab.nil), ?_⟩
   refine RD.q rfl rfl (Gd.none rfl) (by first | exact QV.indexAddr_array T rfl rfl rfl rfl rfl (by omega) (by omega) | exact QV.indexAddr_slice T rfl rfl rfl rfl rfl (Rd.some (by assumption) (by omega)) (by omega) (by omega)) ?_
   refine RD.nv rfl rfl rfl (Gd.none rfl) ?_
   refine NV.sva T ?_ (hj := by rw [tabL_len]; omega)
   refine ⟨Stab.nil, ?_⟩
   refine RD.k rfl rfl ?_
   refine hK5 _ _ _ ?_
   refine SW.drop ?_
   rw [Int.toNat_natCast, show crcN z p (k * 2 ^ (z - 4)) [0, 0, 0, 0] = tabN z p k from rfl, tabL_set (by omega)]
   refine SW.region _ _ _ _ ?_
   first | refine RL.ar ?_ | refine RL.p T ?_
   refine RL.p T ?_
   refine RL.nil _ _ _ _ ?_
   exact ⟨16 - (k + 1), (by omega), k + 1, (by rfl), ⟨by omega, trivial⟩, (.cons rfl (.nil (by repeat first | exact Mx.refl | exact Mx.mix | refine Mx.put rfl ?_ | refine Mx.upd rfl ?_ | refine Mx.updl rfl ?_ | refine Mx.fin rfl ?_ | refine Mx.inner rfl ?_ | refine Mx.none ?_))), rfl, rfl⟩
  ·skip
   refine SW.exit ?_
   refine hK1 _ _ _ ?_
   refine SW.seq_k fun K7 hK7 => ?_
   obtain rfl : k = 16 := by omega
   refine SW.region _ _ _ _ ?_
   refine RL.q (QV.lvA T rfl rfl rfl rfl rfl (by repeat first | exact At.head _ _ | apply At.tail | apply At.app) rfl) ?_
   refine RL.s ?_
   refine NV.svA T rfl rfl rfl rfl rfl (ones_all _ _) (by repeat first | exact At.head _ _ | apply At.tail | apply At.app) rfl ?_
   refine RL.nil _ _ _ _ ?_
   refine hK7 _ _ _ ?_
   refine SW.ret ?_
   refine retQ.ret (H' := H) (RVs.varA T rfl rfl rfl rfl (by repeat first | exact At.head _ _ | apply At.tail | apply At.app) rfl RVs.nil) (fun w hw => Sat.sub (by repeat first | exact List.Sublist.refl _ | apply List.Sublist.cons_cons | apply List.Sublist.cons | exact List.sublist_append_right _ _ | refine List.Sublist.trans ?_ (List.sublist_append_right _ _)) hw) ?_
   clear hK7 K7 hK4 K4 hK3 K3 hK2 K2 hK1 K1 hK0 K0
   exact ⟨rfl, rfl⟩
end Go.Proofs.Ytmdmlhhhaidebaa.M
