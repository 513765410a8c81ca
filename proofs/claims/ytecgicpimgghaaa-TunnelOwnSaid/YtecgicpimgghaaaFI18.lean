import Derived.Test.YtecgicpimgghaaaProg
import Derived.Test.YtecgicpimgghaaaFH18
set_option linter.unusedVariables false
set_option linter.unusedSimpArgs false
namespace Go.Proofs.Ytecgicpimgghaaa.M
open Go Go.Sep Go.Proofs
set_option maxRecDepth 10000
set_option maxHeartbeats 2000000
theorem way1 {w0 : World} {H : List Chunk} (sa : Option Addr) (n c : Nat) (es : List Int) (hR : Rd w0 H sa n c 1 (es.map (.int .u8))) (hn : n = es.length) (hm : n ≤ 140737488351232) (hB : Byte es) : SC Try.prog w0 33 #[.slice sa n c] H (fun v H' => ∃ a' c', v = .agg #[.int .u8 (bi zeroE.t 0), .int .u8 (bi zeroE.t 1), .int .u8 (bi zeroE.t 2), .int .u8 (bi zeroE.t 3), .int .u8 (bi zeroE.t 4), .int .u8 (bi zeroE.t 5), .int .u8 (bi zeroE.t 6), .int .u8 (bi zeroE.t 7), .int .u8 (bi zeroE.t 8), .int .u8 (bi zeroE.t 9), .int .u8 (bi zeroE.t 10), .int .u8 (bi zeroE.t 11), .bool zeroE.tagged, .int .u16 zeroE.tag, .int .u16 zeroE.typ, .slice none 0 0, .int .i64 (zeroF 0).kind, .int .u32 (zeroF 0).id, .bool (zeroF 0).ext, .bool (zeroF 0).rtr, .bool (zeroF 0).brs, .bool (zeroF 0).esi, .bool (zeroF 0).sec, .int .u8 (zeroF 0).sdt, .int .u8 (zeroF 0).vcid, .int .u32 (zeroF 0).af, .slice none 0 0, .slice a' es.length c', .int .i64 0] ∧ H' = .row a' es.length c' 5 1 (es.map (.int .u8)) :: H) := by
 refine SC.enter Try.func33 rfl (Nat.le_of_ble_eq_true rfl) ?_
 refine SW.seq_k fun K0 hK0 => ?_
 refine SW.region _ _ _ _ ?_
 refine RL.s ?_
 refine NV.alloc T rfl rfl rfl (by exact (rfl : _ = [_, _, _, _, _, _, _, _, _, _, _, _, _, _, _, _, _, _, _, _, _, _, _, _, _, _, _, _, _])) ?_
 intro b2_0
 refine RL.nil _ _ _ _ ?_
 refine hK0 _ _ _ ?_
 refine SW.seq_k fun K1 hK1 => ?_
 refine SW.region _ _ _ _ ?_
 refine RL.p T ?_
 refine RL.c fun31 (fun hs => clone sa n c es (by repeat first | exact hR | apply Rd.cons | apply Rd.app) hn hm) ?_
 rintro _ _ ⟨a1, c1, rfl, e⟩; obtain rfl := e.symm
 refine RL.s ?_
 refine NV.pure T (rfl : _ = some (Value.agg #[_, _, _, _, _, _, _, _, _, _, _, _, _, _, _, _, _, _, _, _, _, _, _, _, _, _, _, _, _])) ?_
 refine RL.s ?_
 refine NV.sN T rfl rfl rfl (by exact (rfl : _ = [_, _, _, _, _, _, _, _, _, _, _, _, _, _, _, _, _, _, _, _, _, _, _, _, _, _, _, _, _])) (by exact (rfl : _ = [_, _, _, _, _, _, _, _, _, _, _, _, _, _, _, _, _, _, _, _, _, _, _, _, _, _, _, _, _])) ?_
 refine RL.nil _ _ _ _ ?_
 refine hK1 _ _ _ ?_
 refine SW.ret ?_
 refine retQ.ra ((.row a1 es.length c1 5 1 (es.map (.int .u8)) :: H)) (RVs.cN T rfl rfl rfl rfl (by exact (rfl : _ = [_, _, _, _, _, _, _, _, _, _, _, _, _, _, _, _, _, _, _, _, _, _, _, _, _, _, _, _, _])) RVs.nil) ?_
 clear hK1 K1 hK0 K0
 exact ⟨a1, c1, rfl, rfl⟩
theorem way3 {w0 : World} {H : List Chunk} (sa : Option Addr) (n c : Nat) (es : List Int) (hR : Rd w0 H sa n c 1 (es.map (.int .u8))) (hn : n = es.length) (hm : n ≤ 140737488351232) (hB : Byte es) : SC Try.prog w0 34 #[.slice sa n c] H (fun v H' => ∃ a n c G, v = .agg #[.int .u8 (bi (getEr es).t 0), .int .u8 (bi (getEr es).t 1), .int .u8 (bi (getEr es).t 2), .int .u8 (bi (getEr es).t 3), .int .u8 (bi (getEr es).t 4), .int .u8 (bi (getEr es).t 5), .int .u8 (bi (getEr es).t 6), .int .u8 (bi (getEr es).t 7), .int .u8 (bi (getEr es).t 8), .int .u8 (bi (getEr es).t 9), .int .u8 (bi (getEr es).t 10), .int .u8 (bi (getEr es).t 11), .bool (getEr es).tagged, .int .u16 (getEr es).tag, .int .u16 (getEr es).typ, .slice a n c, .int .i64 (zeroF 0).kind, .int .u32 (zeroF 0).id, .bool (zeroF 0).ext, .bool (zeroF 0).rtr, .bool (zeroF 0).brs, .bool (zeroF 0).esi, .bool (zeroF 0).sec, .int .u8 (zeroF 0).sdt, .int .u8 (zeroF 0).vcid, .int .u32 (zeroF 0).af, .slice none 0 0, .slice none 0 0, .int .i64 (getEe es)] ∧ n = (getEr es).data.length ∧ Rd w0 G a n c 1 ((getEr es).data.map (.int .u8)) ∧ H' = G ++ H) := by
 refine SC.enter Try.func34 rfl (Nat.le_of_ble_eq_true rfl) ?_
 refine SW.seq_k fun K0 hK0 => ?_
 refine SW.region _ _ _ _ ?_
 refine RL.s ?_
 refine NV.alloc T rfl rfl rfl (by exact (rfl : _ = [_, _, _, _, _, _, _, _, _, _, _, _, _, _, _, _, _, _, _, _, _, _, _, _, _, _, _, _, _])) ?_
 intro b2_0
 refine RL.nil _ _ _ _ ?_
 refine hK0 _ _ _ ?_
 refine SW.seq_k fun K1 hK1 => ?_
 refine SW.region _ _ _ _ ?_
 refine RL.p T ?_
 refine RL.c fun17 (fun hs => geteth sa n c es (by repeat first | exact hR | apply Rd.cons | apply Rd.app) hn hm hB) ?_
 rintro _ _ ⟨a1, n1, c1, G1, rfl, hn1, hr1, e⟩; obtain rfl := e.symm
 refine RL.p T ?_
 refine RL.p T ?_
 refine RL.p T ?_
 refine RL.s ?_
 refine NV.alloc T rfl rfl rfl (by exact (rfl : _ = [_, _, _, _, _, _, _, _, _, _, _, _, _, _, _, _])) ?_
 intro b3_1
 refine RL.s ?_
 refine NV.sN T rfl rfl rfl (by exact (rfl : _ = [_, _, _, _, _, _, _, _, _, _, _, _, _, _, _, _])) (by exact (rfl : _ = [_, _, _, _, _, _, _, _, _, _, _, _, _, _, _, _])) ?_
 refine RL.p T ?_
 refine RL.nil _ _ _ _ ?_
 refine hK1 _ _ _ ?_
 refine SW.seq_k fun K2 hK2 => ?_
 refine SW.region _ _ _ _ ?_
 refine RL.q (QV.vN T rfl rfl rfl rfl rfl (by exact (rfl : _ = [_, _, _, _, _, _, _, _, _, _, _, _, _, _, _, _]))) ?_
 refine RL.p T ?_
 refine RL.s ?_
 refine NV.pure T (rfl : _ = some (Value.agg #[_, _, _, _, _, _, _, _, _, _, _, _, _, _, _, _, _, _, _, _, _, _, _, _, _, _, _, _, _])) ?_
 refine RL.s ?_
 refine NV.sN T rfl rfl rfl (by exact (rfl : _ = [_, _, _, _, _, _, _, _, _, _, _, _, _, _, _, _, _, _, _, _, _, _, _, _, _, _, _, _, _])) (by exact (rfl : _ = [_, _, _, _, _, _, _, _, _, _, _, _, _, _, _, _, _, _, _, _, _, _, _, _, _, _, _, _, _])) ?_
 refine RL.nil _ _ _ _ ?_
 refine hK2 _ _ _ ?_
 refine SW.ret ?_
 refine retQ.rk (RVs.cN T rfl rfl rfl rfl (by exact (rfl : _ = [_, _, _, _, _, _, _, _, _, _, _, _, _, _, _, _, _, _, _, _, _, _, _, _, _, _, _, _, _])) RVs.nil) ?_
 clear hK2 K2 hK1 K1 hK0 K0
 exact ⟨a1, n1, c1, _ :: (G1 ++ [_]), rfl, hn1, hr1.appr.cons, (congrArg (List.cons _) (List.append_assoc G1 [_] H).symm)⟩
theorem way6 {w0 : World} {H : List Chunk} (sa : Option Addr) (n c : Nat) (es : List Int) (hR : Rd w0 H sa n c 1 (es.map (.int .u8))) (hn : n = es.length) (hm : n ≤ 140737488351232) (hB : Byte es) : SC Try.prog w0 35 #[.slice sa n c] H (fun v H' => ∃ a n c G, v = .agg #[.int .u8 (bi zeroE.t 0), .int .u8 (bi zeroE.t 1), .int .u8 (bi zeroE.t 2), .int .u8 (bi zeroE.t 3), .int .u8 (bi zeroE.t 4), .int .u8 (bi zeroE.t 5), .int .u8 (bi zeroE.t 6), .int .u8 (bi zeroE.t 7), .int .u8 (bi zeroE.t 8), .int .u8 (bi zeroE.t 9), .int .u8 (bi zeroE.t 10), .int .u8 (bi zeroE.t 11), .bool zeroE.tagged, .int .u16 zeroE.tag, .int .u16 zeroE.typ, .slice none 0 0, .int .i64 (oldR es).kind, .int .u32 (oldR es).id, .bool (oldR es).ext, .bool (oldR es).rtr, .bool (oldR es).brs, .bool (oldR es).esi, .bool (oldR es).sec, .int .u8 (oldR es).sdt, .int .u8 (oldR es).vcid, .int .u32 (oldR es).af, .slice a n c, .slice none 0 0, .int .i64 (oldE es)] ∧ n = (oldR es).data.length ∧ Rd w0 G a n c 1 ((oldR es).data.map (.int .u8)) ∧ H' = G ++ H) := by
 refine SC.enter Try.func35 rfl (Nat.le_of_ble_eq_true rfl) ?_
 refine SW.seq_k fun K0 hK0 => ?_
 refine SW.region _ _ _ _ ?_
 refine RL.s ?_
 refine NV.alloc T rfl rfl rfl (by exact (rfl : _ = [_, _, _, _, _, _, _, _, _, _, _, _, _, _, _, _, _, _, _, _, _, _, _, _, _, _, _, _, _])) ?_
 intro b2_0
 refine RL.nil _ _ _ _ ?_
 refine hK0 _ _ _ ?_
 refine SW.seq_k fun K1 hK1 => ?_
 refine SW.region _ _ _ _ ?_
 refine RL.p T ?_
 refine RL.c fun11 (fun hs => getold sa n c es (by repeat first | exact hR | apply Rd.cons | apply Rd.app) hn hm hB) ?_
 rintro _ _ ⟨a1, n1, c1, G1, rfl, hn1, hr1, e⟩; obtain rfl := e.symm
 refine RL.p T ?_
 refine RL.p T ?_
 refine RL.p T ?_
 refine RL.s ?_
 refine NV.alloc T rfl rfl rfl (by exact (rfl : _ = [_, _, _, _, _, _, _, _, _, _, _])) ?_
 intro b3_1
 refine RL.s ?_
 refine NV.sN T rfl rfl rfl (by exact (rfl : _ = [_, _, _, _, _, _, _, _, _, _, _])) (by exact (rfl : _ = [_, _, _, _, _, _, _, _, _, _, _])) ?_
 refine RL.p T ?_
 refine RL.nil _ _ _ _ ?_
 refine hK1 _ _ _ ?_
 refine SW.seq_k fun K2 hK2 => ?_
 refine SW.region _ _ _ _ ?_
 refine RL.q (QV.vN T rfl rfl rfl rfl rfl (by exact (rfl : _ = [_, _, _, _, _, _, _, _, _, _, _]))) ?_
 refine RL.p T ?_
 refine RL.s ?_
 refine NV.pure T (rfl : _ = some (Value.agg #[_, _, _, _, _, _, _, _, _, _, _, _, _, _, _, _, _, _, _, _, _, _, _, _, _, _, _, _, _])) ?_
 refine RL.s ?_
 refine NV.sN T rfl rfl rfl (by exact (rfl : _ = [_, _, _, _, _, _, _, _, _, _, _, _, _, _, _, _, _, _, _, _, _, _, _, _, _, _, _, _, _])) (by exact (rfl : _ = [_, _, _, _, _, _, _, _, _, _, _, _, _, _, _, _, _, _, _, _, _, _, _, _, _, _, _, _, _])) ?_
 refine RL.nil _ _ _ _ ?_
 refine hK2 _ _ _ ?_
 refine SW.ret ?_
 refine retQ.rk (RVs.cN T rfl rfl rfl rfl (by exact (rfl : _ = [_, _, _, _, _, _, _, _, _, _, _, _, _, _, _, _, _, _, _, _, _, _, _, _, _, _, _, _, _])) RVs.nil) ?_
 clear hK2 K2 hK1 K1 hK0 K0
 exact ⟨a1, n1, c1, _ :: (G1 ++ [_]), rfl, hn1, hr1.appr.cons, (congrArg (List.cons _) (List.append_assoc G1 [_] H).symm)⟩
end Go.Proofs.Ytecgicpimgghaaa.M
