import Derived.Test.YtmdmlhhhaidebaaProg
import Derived.Test.YtmdmlhhhaidebaaFB2
set_option linter.unusedVariables false
set_option linter.unusedSimpArgs false
namespace Go.Proofs.Ytmdmlhhhaidebaa.M
open Go Go.Sep Go.Proofs
set_option maxRecDepth 10000
set_option maxHeartbeats 2000000
theorem run {w0 : World} {H : List Chunk} (z p st : Nat) (hz : 4 ≤ z) (hz2 : z ≤ 32) (hp : p < 2 ^ z) (s : Nat) (hs : s < 2 ^ z) (sa : Option Addr) (n c : Nat) (es : List Int) (hR : Rd w0 H sa n c 1 (es.map (.int .u8))) (hn : n = es.length) (hm : n ≤ 140737488351232) (hb : Bit es) : SC Try.prog w0 24 #[.agg #[.int .i64 (z : Nat), .int .u64 (p : Nat), .int .u64 (st : Nat)], .int .u64 ((s : Nat) : Int), .slice sa n c] H (fun v H' => v = .int .u64 ((crcN z p s es : Nat) : Int) ∧ H' = H) := by
 refine SC.enterM Try.func24 rfl (Nat.le_of_ble_eq_true rfl) ?_
 refine SW.seq_k fun K0 hK0 => ?_
 have h64 : (2 : Nat) ^ z < 2 ^ 64 := Nat.pow_lt_pow_right (by omega) (by omega)
 refine SW.region _ _ _ _ ?_
 refine RL.s ?_
 refine NV.box rfl (by exact (rfl : _ = [_, _, _])) ?_
 intro b3_0
 refine RL.s ?_
 refine NV.box rfl (by exact (rfl : _ = [_])) ?_
 intro b4_1
 refine RL.s ?_
 refine NV.alloc T rfl rfl rfl (by exact (rfl : _ = [_])) ?_
 intro b6_2
 refine RL.nil _ _ _ _ ?_
 refine hK0 _ _ _ ?_
 refine SW.seq_k fun K1 hK1 => ?_
 refine SW.region _ _ _ _ ?_
 refine RL.lvN T rfl rfl rfl rfl rfl (by repeat first | exact At.head _ _ | assumption | exact At.put (by assumption) _ | apply At.tail | apply At.app) (by exact (rfl : _ = [_, _, _])) ?_
 refine RL.c fun34 (fun hs => table z p st hz hz2 hp) ?_
 rintro _ _ ⟨rfl, e⟩; obtain rfl := e.symm
 refine RL.s ?_
 refine NV.alloc T rfl rfl rfl (by exact (rfl : _ = [_, _, _, _, _, _, _, _, _, _, _, _, _, _, _, _])) ?_
 intro b7_3
 refine RL.s ?_
 refine NV.svA T rfl rfl rfl rfl rfl (ones_all _ _) (by repeat first | exact At.head _ _ | apply At.tail | apply At.app) (by rfl) ?_
 refine RL.nil _ _ _ _ ?_
 refine hK1 _ _ _ ?_
 refine SW.seq_k fun K2 hK2 => ?_
 refine SW.seq_k fun K3 hK3 => ?_
 refine SW.region _ _ _ _ ?_
 refine RL.p T ?_
 refine RL.c fun35 (fun hs => chunkF sa n c 4 (by omega)) ?_
 rintro _ _ ⟨bs, bm, rfl, e⟩; obtain rfl := e.symm
 refine RL.nil _ _ _ _ ?_
 refine hK3 _ _ _ ?_
 refine SW.block ?_
 refine SW.rangeF (hfun := fun43) (fun L D LO hY => ?_)
 refine (chunkIter L bs bm sa n c 4 es hm (by omega) (by omega) (hV := fun k HJ ⟨_, _, e⟩ => by rw [e]; exact ⟨_, .tail (.tail (.tail (.head _ _)))⟩) (hV2 := fun k HJ ⟨_, _, e⟩ => by rw [e]; exact ⟨_, .tail (.tail (.head _ _))⟩) (hJR := fun k HJ ⟨_, _, e⟩ hs => by rw [e]; exact hR.cons.cons.cons.cons.cons.cons.cons.cons) (J := fun k HJ => ∃ (_ : Unit), (4 * k ≤ n) ∧ HJ = LO .ready none :: .obj D (.deferred (some [])) :: (.var bm 3 [.int .i64 4] :: .var bs 23 [.slice sa n c] :: .var b7_3 63 ((tabL z p 16).map (.int .u64)) :: .var b6_2 22 [.int .u64 (0)] :: .var b4_1 22 [.int .u64 (((crcN z p s (es.take (4 * k))) : Nat) : Int)] :: .var b3_0 51 [.int .i64 (z : Nat), .int .u64 (p : Nat), .int .u64 (st : Nat)] :: H)) (X := fun HJ => (∃ (k : Nat), (True) ∧ HJ = LO .done (some .ret) :: .obj D (.deferred (some [])) :: (.var bm 3 [.int .i64 4] :: .var bs 23 [.slice sa n c] :: .var b7_3 63 ((tabL z p 16).map (.int .u64)) :: .var b6_2 22 [.int .u64 (((crcN z p s es : Nat) : Int))] :: .var b4_1 22 [.int .u64 (((crcN z p s (es.take (4 * k))) : Nat) : Int)] :: .var b3_0 51 [.int .i64 (z : Nat), .int .u64 (p : Nat), .int .u64 (st : Nat)] :: H))) ?_ (fun k h HJ hk hh hJ => ?_)).mono ?_
 ·exact ⟨(), by omega, rfl⟩
 ·obtain ⟨_, hk4, rfl⟩ := hJ
  obtain ⟨hlo, hhi, hor, _⟩ := hh
  have hP := (hR.part h (l := 4 * k) (h := h) (by omega) (by omega) (by omega))
  have hB := hb.drop (k := 4 * k) |>.take (k := h - 4 * k)
  have hLn : ((es.drop (4 * k)).take (h - 4 * k)).length = h - 4 * k := by rw [List.length_take, List.length_drop]; omega
  have hS := crcN_lt hp (es.take (4 * k)) s hs
  refine hY (At.head _ _) rfl ?_
  refine SW.region _ _ _ _ ?_
  refine RL.p T ?_
  refine RL.nil _ _ _ _ ?_
  refine ⟨_, (by repeat first | exact At.head _ _ | apply At.tail), ?_⟩
  refine SW.block ?_
  refine SW.seq_k fun K4 hK4 => ?_
  refine SW.seq_k fun K5 hK5 => ?_
  refine SW.region _ _ _ _ ?_
  refine RL.p T ?_
  refine RL.p T ?_
  refine RL.p T ?_
  refine RL.nil _ _ _ _ ?_
  refine hK5 _ _ _ ?_
  refine SW.cs (fun hc0 => ?_) (fun hc0 => ?_)
  ·skip
   refine SW.seq_k fun K6 hK6 => ?_
   refine SW.region _ _ _ _ ?_
   refine RL.lv1 T ?_
   refine RL.p T ?_
   refine RL.lvN T rfl rfl rfl rfl rfl (by repeat first | exact At.head _ _ | assumption | exact At.put (by assumption) _ | apply At.tail | apply At.app) (by exact (rfl : _ = [_, _, _])) ?_
   refine RL.p T ?_
   refine RL.c fun36 (fun hs => all z p st hz hz2 hp (crcN z p s (es.take (4 * k))) hS _ _ _ ((es.drop (4 * k)).take (h - 4 * k)) hP.cons.cons.cons.cons.cons.cons.cons.cons hLn.symm (by omega) hB) ?_
   rintro _ _ ⟨rfl, e⟩; obtain rfl := e.symm
   rw [crc_tail (by omega)]
   refine RL.sv1 T ?_
   refine RL.nil _ _ _ _ ?_
   refine hK6 _ _ _ ?_
   refine SW.ret ?_
   exact ⟨_, (by repeat first | exact At.head _ _ | apply At.tail), false, rfl, (fun h => by cases h), fun _ => ⟨k, trivial, rfl⟩⟩
  ·skip
   refine SW.skip ?_
   refine hK4 _ _ _ ?_
   refine SW.seq_k fun K7 hK7 => ?_
   refine SW.region _ _ _ _ ?_
   refine RL.p T ?_
   refine RL.c fun30 (fun hs => (get_ok _ _ _ ((es.drop (4 * k)).take (h - 4 * k)) hP.cons.cons.cons.cons.cons.cons.cons.cons hLn.symm (by omega) (by omega) (chk_of hB (by omega)) hB).mono (fun v H' hh => by rw [← numN_cast hB] at hh; exact hh)) ?_
   rintro _ _ ⟨rfl, e⟩; obtain rfl := e.symm
   refine RL.p T ?_
   refine RL.p T ?_
   refine RL.p T ?_
   refine RL.p T ?_
   refine RL.p T ?_
   refine RL.nil _ _ _ _ ?_
   refine hK7 _ _ _ ?_
   refine SW.seq_k fun K8 hK8 => ?_
   have hN4 : numN ((es.drop (4 * k)).take (h - 4 * k)) < 16 := by
     have := numN_lt hB
     rw [hLn] at this
     exact Nat.lt_of_lt_of_le this (Nat.pow_le_pow_right (by omega) (by omega : h - 4 * k ≤ 4))
   refine SW.region _ _ _ _ ?_
   refine RL.lv1 T ?_
   refine RL.p T ?_
   refine RL.lv1 T ?_
   first | refine RL.ar ?_ | refine RL.p T ?_
   refine RL.q (QV.shrN (s := z - 4) rfl rfl rfl (by omega) (by omega)) ?_
   refine RL.p T ?_
   refine RL.q (QV.xorN T rfl rfl rfl (by have := Nat.div_le_self (crcN z p s (es.take (4 * k))) (2 ^ (z - 4)); omega) (by omega)) ?_
   refine RL.p T ?_
   refine RL.nil _ _ _ _ ?_
   refine hK8 _ _ _ ?_
   obtain rfl : h = 4 * k + 4 := by omega
   have hx16 := high4 (p := p) (z := z) (s := (crcN z p s (es.take (4 * k)))) (l := ((es.drop (4 * k)).take (4 * k + 4 - 4 * k))) hz hS (by omega) hB
   refine SW.draw [(37, 0), (38, 1), (39, 2), (40, 3), (41, 4), (42, 5), (43, 6), (44, 7), (45, 8), (46, 9), (47, 10)] [[], [0], [], [2], [3, 2], [4, 3, 2], [1, 0, 5, 4, 3, 2], [], [7], [8, 7], [6, 1, 0, 5, 4, 3, 2, 9, 8, 7], [10, 6, 1, 0, 5, 4, 3, 2, 9, 8, 7]] mixed (by kernel_rfl) (by kernel_rfl) ?_
   refine RD.q rfl rfl (Gd.none rfl) (by first | exact QV.load_var1 T rfl rfl rfl rfl (by repeat first | exact At.head _ _ | assumption | exact At.put (by assumption) _ | apply At.tail | apply At.app) rfl | exact QV.load_varN T rfl rfl rfl rfl rfl (by repeat first | exact At.head _ _ | assumption | exact At.put (by assumption) _ | apply At.tail | apply At.app) (by exact (rfl : _ = [_])) rfl | exact QV.load_elem T rfl rfl rfl rfl (by assumption) (by first | exact map_get _ _ (by omega) | assumption)) ?_
   refine RD.q rfl rfl (Gd.none rfl) (QV.shlN (s := 4) rfl rfl rfl rfl (by omega)) ?_
   refine RD.q rfl rfl (Gd.none rfl) (pev_sound T (by conv => lhs; whnf; arg 1; whnf)) ?_
   refine RD.q rfl rfl (Gd.none rfl) (by first | exact QV.load_var1 T rfl rfl rfl rfl (by repeat first | exact At.head _ _ | assumption | exact At.put (by assumption) _ | apply At.tail | apply At.app) rfl | exact QV.load_varN T rfl rfl rfl rfl rfl (by repeat first | exact At.head _ _ | assumption | exact At.put (by assumption) _ | apply At.tail | apply At.app) (by exact (rfl : _ = [_])) rfl | exact QV.load_elem T rfl rfl rfl rfl (by assumption) (by first | exact map_get _ _ (by omega) | assumption)) ?_
   refine RD.q rfl rfl (Gd.none rfl) (QV.one_shl (s := z) rfl rfl rfl rfl (by omega)) ?_
   refine RD.q rfl rfl (Gd.none rfl) (QV.sub1 T rfl rfl rfl (Nat.pow_pos (by omega)) h64) ?_
   refine RD.q rfl rfl (Gd.none rfl) (QV.as (QV.mask (z := z) T rfl rfl rfl (Nat.mod_lt _ (by decide)) (by omega)) (by rw [Nat.mod_mod_of_dvd _ (Nat.pow_dvd_pow 2 (by omega : z ≤ 64))]; try rfl)) ?_
   refine RD.q rfl rfl (Gd.none rfl) (pev_sound T (by conv => lhs; whnf; arg 1; whnf)) ?_
   refine RD.q rfl rfl (Gd.none rfl) (by first | exact QV.indexAddr_array T rfl rfl rfl rfl rfl (by omega) (by omega) | exact QV.indexAddr_slice T rfl rfl rfl rfl rfl (Rd.some (by assumption) (by omega)) (by omega) (by omega)) ?_
   refine RD.q rfl rfl (Gd.none rfl) (QV.as (QV.lva T rfl rfl rfl rfl (by repeat first | exact At.head _ _ | apply At.tail | apply At.app) (by rw [tabL_len, Int.toNat_natCast]; exact hx16)) (by rw [Int.toNat_natCast, tabL_get hx16]; try rfl)) ?_
   refine RD.q rfl rfl (Gd.none rfl) (QV.xorN T rfl rfl rfl (by have : (crcN z p s (es.take (4 * k))) * 2 ^ 4 % 2 ^ z < 2 ^ z := Nat.mod_lt _ (Nat.pow_pos (by omega)); omega) (by have := tab_lt (i := (crcN z p s (es.take (4 * k))) / 2 ^ (z - 4) ^^^ numN ((es.drop (4 * k)).take (4 * k + 4 - 4 * k))) hz hp hx16; omega)) ?_
   refine RD.nv rfl rfl rfl (Gd.none rfl) ?_
   refine NV.store_var1 T rfl rfl rfl rfl (by conv => lhs; whnf) rfl (by repeat first | exact At.head _ _ | assumption | exact At.put (by assumption) _ | apply At.tail | apply At.app) rfl (by exact (rfl : _ = [_])) ?_
   refine ⟨Stab.nil, ?_⟩
   refine RD.k rfl rfl ?_
   exact ⟨_, (by repeat first | exact At.head _ _ | apply At.tail), true, rfl, fun _ => ⟨(), by omega, (by rw [crc_step hz hb (by omega)])⟩, fun h => by cases h⟩
 ·rintro v HJ (⟨k, hk1, hk2, _, hk4, rfl⟩ | ⟨k, _, rfl⟩)
  ·refine ⟨_, _, none, At.head _ _, (fun h => by cases h), ?_⟩
   refine hK2 _ _ _ ?_
   refine SW.seq_k fun K9 hK9 => ?_
   refine SW.region _ _ _ _ ?_
   refine RL.lv1 T ?_
   refine RL.sv1 T ?_
   refine RL.nil _ _ _ _ ?_
   refine hK9 _ _ _ ?_
   refine SW.ret ?_
   refine Lv.mark (by repeat first | exact At.head _ _ | assumption | exact At.put (by assumption) _ | apply At.tail | apply At.app) (Lv.sat fun hs => Lv.nil (H' := H) (by first | exact RVs.var1 T rfl rfl rfl (by repeat first | exact At.head _ _ | assumption | exact At.put (by assumption) _ | apply At.tail | apply At.app) rfl RVs.nil | exact RVs.varN T rfl rfl rfl rfl (by repeat first | exact At.head _ _ | assumption | exact At.put (by assumption) _ | apply At.tail | apply At.app) (by exact (rfl : _ = [_])) rfl RVs.nil) (fun w hw => Sat.sub (by repeat first | exact List.Sublist.refl _ | apply List.Sublist.cons_cons | apply List.Sublist.cons | exact List.sublist_append_right _ _ | refine List.Sublist.trans ?_ (List.sublist_append_right _ _)) hw) ?_)
   clear hK9 K9 hK3 K3 hK2 K2 hK1 K1 hK0 K0
   first
     | exact ⟨rfl, rfl⟩
     | exact ⟨by rw [List.take_of_length_le (by omega)]; rfl, rfl⟩
  ·refine ⟨_, _, some _, At.head _ _, (fun h => by cases h), ?_⟩
   refine SW.ret ?_
   refine Lv.mark (by repeat first | exact At.head _ _ | assumption | exact At.put (by assumption) _ | apply At.tail | apply At.app) (Lv.sat fun hs => Lv.nil (H' := H) (by first | exact RVs.var1 T rfl rfl rfl (by repeat first | exact At.head _ _ | assumption | exact At.put (by assumption) _ | apply At.tail | apply At.app) rfl RVs.nil | exact RVs.varN T rfl rfl rfl rfl (by repeat first | exact At.head _ _ | assumption | exact At.put (by assumption) _ | apply At.tail | apply At.app) (by exact (rfl : _ = [_])) rfl RVs.nil) (fun w hw => Sat.sub (by repeat first | exact List.Sublist.refl _ | apply List.Sublist.cons_cons | apply List.Sublist.cons | exact List.sublist_append_right _ _ | refine List.Sublist.trans ?_ (List.sublist_append_right _ _)) hw) ?_)
   clear hK3 K3 hK2 K2 hK1 K1 hK0 K0
   first
     | exact ⟨rfl, rfl⟩
     | exact ⟨by rw [List.take_of_length_le (by omega)]; rfl, rfl⟩
end Go.Proofs.Ytmdmlhhhaidebaa.M
