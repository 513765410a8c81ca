import Derived.Test.YtjemdjjmpgjieaaProg
import Derived.Test.YtjemdjjmpgjieaaFC14
import Derived.Test.YtjemdjjmpgjieaaS26
import Derived.Test.YtjemdjjmpgjieaaS36
import Derived.Test.YtjemdjjmpgjieaaP14f
set_option linter.unusedVariables false
set_option linter.unusedSimpArgs false
namespace Go.Proofs.Ytjemdjjmpgjieaa.M
open Go Go.Sep Go.Proofs
set_option maxRecDepth 10000
set_option maxHeartbeats 2000000
theorem mLen {w0 : World} {H : List Chunk} (a : Option Addr) (n c : Nat) : SC Try.prog w0 107 #[.slice a n c] H (fun v H' => v = .int .i64 (n : Nat) ∧ H' = H) := by
 refine SC.enter Try.func107 rfl (Nat.le_of_ble_eq_true rfl) ?_
 refine SW.seq_k fun K0 hK0 => ?_
 refine SW.region _ _ _ _ ?_
 refine RL.p T ?_
 refine RL.nil _ _ _ _ ?_
 refine hK0 _ _ _ ?_
 refine SW.seq_k fun K1 hK1 => ?_
 refine SW.region _ _ _ _ ?_
 refine RL.p T ?_
 refine RL.p T ?_
 refine RL.p T ?_
 refine RL.nil _ _ _ _ ?_
 refine hK1 _ _ _ ?_
 refine SW.ret ?_
 refine retQ.rr (H) ?_
 clear hK1 K1 hK0 K0
 exact ⟨rfl, rfl⟩
theorem mLess {w0 : World} {H : List Chunk} (a : Option Addr) (n c : Nat) (L : List En) (hn : n = L.length) (hm : n ≤ 100) (hR : Rd w0 H a n c 13 (L.flatMap EnC)) (i j : Nat) (hi : i < n) (hj : j < n) : SC Try.prog w0 108 #[.slice a n c, .int .i64 (i : Nat), .int .i64 (j : Nat)] H (fun v H' => v = .bool (ltE (gE L i) (gE L j)) ∧ H' = H) := by
 refine SC.enter Try.func108 rfl (Nat.le_of_ble_eq_true rfl) ?_
 refine SW.seq_k fun K0 hK0 => ?_
 refine SW.region _ _ _ _ ?_
 refine RL.p T ?_
 refine RL.nil _ _ _ _ ?_
 refine hK0 _ _ _ ?_
 refine SW.seq_k fun K1 hK1 => ?_
 refine SW.drawQ [(7, 0), (8, 1), (9, 2), (10, 3), (11, 4), (12, 5), (13, 6), (14, 7), (15, 8), (16, 9), (6, 10)] [[], [], [0, 1], [2, 0, 1], [], [], [4, 5], [6, 4, 5], [3, 2, 0, 1, 7, 6, 4, 5], [8, 3, 2, 0, 1, 7, 6, 4, 5], [9, 8, 3, 2, 0, 1, 7, 6, 4, 5]] mixed (by kernel_rfl) (by kernel_rfl) ?_
 refine QL.p T ?_
 refine QL.p T ?_
 refine QL.ix T ?_ (hR := fun hs => hR)
 refine QL.leN T ?_ (hR := fun hs => hR) (hvs := (by exact (rfl : _ = [_, _, _, _, _, _, _, _, _, _, _, _, _])))
 refine QL.p T ?_
 refine QL.p T ?_
 refine QL.ix T ?_ (hR := fun hs => hR)
 refine QL.leN T ?_ (hR := fun hs => hR) (hvs := (by exact (rfl : _ = [_, _, _, _, _, _, _, _, _, _, _, _, _])))
 refine QL.c fun45 (fun hs => compareE (gE L i) (gE L j)) ?_
 refine QL.p T ?_
 refine QL.p T ?_
 refine QL.nil ?_
 refine hK1 _ _ _ ?_
 refine SW.ret ?_
 refine retQ.rr (H) ?_
 clear hK1 K1 hK0 K0
 exact ⟨rfl, rfl⟩
theorem mSwap {w0 : World} {H : List Chunk} (a : Option Addr) (n c : Nat) (L : List En) (hn : n = L.length) (hm : n ≤ 100) (i j : Nat) (hi : i < n) (hj : j < n) : SC Try.prog w0 109 #[.slice a n c, .int .i64 (i : Nat), .int .i64 (j : Nat)] (.row a n c 80 13 (List.flatMap EnC (L)) :: H) (fun v H' => H' = .row a n c 80 13 (List.flatMap EnC (swapL L i j)) :: H) := by
 refine SC.enter Try.func109 rfl (Nat.le_of_ble_eq_true rfl) ?_
 refine SW.sat (fun hs => ?_)
 have hR := Rd.rowh hs (At.head _ _)
 clear hs
 refine SW.draw [(6, 0), (7, 1), (8, 2), (9, 3), (10, 4), (11, 5), (12, 6), (13, 7), (14, 8), (15, 9), (16, 10), (17, 11), (18, 12), (19, 14)] [[], [], [], [], [], [], [4, 5], [6, 4, 5], [], [], [8, 9], [10, 8, 9], [0, 1, 4, 5, 6, 7, 11, 10, 8, 9], [12, 0, 1, 4, 5, 6, 7, 11, 10, 8, 9], [2, 3, 0, 1, 4, 5, 6, 7, 8, 9, 10, 11, 12, 13], [14, 2, 3, 0, 1, 4, 5, 6, 7, 8, 9, 10, 11, 12, 13]] mixed (by kernel_rfl) (by kernel_rfl) ?_
 refine RD.p T ?_
 refine RD.p T ?_
 refine RD.p T ?_
 refine RD.p T ?_
 refine RD.p T ?_
 refine RD.p T ?_
 refine RD.q rfl rfl (Gd.none rfl) (by first | exact QV.indexAddr_array T rfl rfl rfl rfl rfl (by omega) (by omega) | exact QV.indexAddr_slice T rfl rfl rfl rfl rfl (Rd.some hR (by omega)) (by omega) (by omega)) ?_
 refine RD.q rfl rfl (Gd.none rfl) (QV.sat fun hs => QV.leN T rfl rfl rfl rfl rfl rfl hR (gE_get (by omega)) (by exact (rfl : _ = [_, _, _, _, _, _, _, _, _, _, _, _, _]))) ?_
 refine RD.p T ?_
 refine RD.p T ?_
 refine RD.q rfl rfl (Gd.none rfl) (by first | exact QV.indexAddr_array T rfl rfl rfl rfl rfl (by omega) (by omega) | exact QV.indexAddr_slice T rfl rfl rfl rfl rfl (Rd.some hR (by omega)) (by omega) (by omega)) ?_
 refine RD.q rfl rfl (Gd.none rfl) (QV.sat fun hs => QV.leN T rfl rfl rfl rfl rfl rfl hR (gE_get (by omega)) (by exact (rfl : _ = [_, _, _, _, _, _, _, _, _, _, _, _, _]))) ?_
 refine RD.q rfl rfl (Gd.none rfl) (by first | exact QV.indexAddr_array T rfl rfl rfl rfl rfl (by omega) (by omega) | exact QV.indexAddr_slice T rfl rfl rfl rfl rfl (Rd.some hR (by omega)) (by omega) (by omega)) ?_
 refine RD.nv rfl rfl rfl (Gd.none rfl) ?_
 refine NV.stN (enc := EnC) (q := gE L j) T ?_
 refine ⟨(Stab.cons rfl (Gd.none rfl) (pev_sound T rfl) (Stab.cons rfl (Gd.none rfl) (pev_sound T rfl) Stab.nil)), ?_⟩
 refine RD.q rfl rfl (Gd.none rfl) (by first | exact QV.indexAddr_array T rfl rfl rfl rfl rfl (by omega) (by omega) | exact QV.indexAddr_slice T rfl rfl rfl rfl rfl (Rd.some hR (by omega)) (by omega) (by omega)) ?_
 refine RD.nv rfl rfl rfl (Gd.none rfl) ?_
 refine NV.stN (enc := EnC) (q := gE L i) T ?_ (hj := by rw [List.length_set]; omega)
 refine ⟨Stab.nil, ?_⟩
 refine RD.k rfl rfl ?_
 try simp only [thenQ, blockQ, Nat.beq_refl, cond_true]
 refine retQ.nn ((.row a n c 80 13 (List.flatMap EnC (swapL L i j)) :: H)) ?_
 exact rfl
theorem flat_take {α : Type} {enc : α → List Value} {sz : Nat} (hE : ∀ r, (enc r).length = sz) : ∀ (l : List α) (k : Nat), (l.flatMap enc).take (k * sz) = (l.take k).flatMap enc
  | [], k => by simp
  | p :: l, 0 => by simp
  | p :: l, k + 1 => by
    rw [List.take_succ_cons, List.flatMap_cons, List.flatMap_cons, ← flat_take hE l k, Nat.succ_mul, Nat.add_comm (k * sz) sz, List.take_append, List.take_of_length_le (by rw [hE]; omega), hE, Nat.add_sub_cancel_left]
theorem mPop {w0 : World} {H : List Chunk} (bq : Nat) (room last : Int) (a : Option Addr) (n c : Nat) (L : List En) (hn : n = L.length) (hm : n ≤ 100) (h0 : 0 < n) : SC Try.prog w0 110 #[.pointer (some ⟨bq, 2, none⟩)] (.var bq 73 [.int .i64 room, .int .i64 last, .slice a n c] :: .row a n c 80 13 (List.flatMap EnC (L)) :: H) (fun v H' => ∃ e, v = .iface 80 (EnA e) ∧ e = gE L (n - 1) ∧ H' = .var bq 73 [.int .i64 room, .int .i64 last, .slice a (n - 1) c] :: .row a (n - 1) c 80 13 (List.flatMap EnC (L.take (n - 1))) :: H) := by
 refine SC.enter Try.func110 rfl (Nat.le_of_ble_eq_true rfl) ?_
 refine SW.seq_k fun K0 hK0 => ?_
 refine SW.region _ _ _ _ ?_
 refine RL.p T ?_
 refine RL.nil _ _ _ _ ?_
 refine hK0 _ _ _ ?_
 refine SW.seq_k fun K1 hK1 => ?_
 refine SW.region _ _ _ _ ?_
 refine RL.p T ?_
 refine RL.p T ?_
 first | refine RL.lv1 T ?_ | refine RL.le T ?_ (hR := fun hs => (Rd.rowh hs (by repeat first | exact At.head _ _ | apply At.tail | apply At.app))) (hv := (gE_get (by omega)))
 refine RL.p T ?_
 first | refine RL.ar ?_ | refine RL.p T ?_
 rw [show ((n : Nat) : Int) - 1 = ((n - 1 : Nat) : Int) by omega]
 refine RL.p T ?_
 refine RL.nil _ _ _ _ ?_
 refine hK1 _ _ _ ?_
 refine SW.seq_k fun K2 hK2 => ?_
 refine SW.region _ _ _ _ ?_
 refine RL.p T ?_
 refine RL.p T ?_
 first | refine RL.lv1 T ?_ | refine RL.le T ?_ (hR := fun hs => (Rd.rowh hs (by repeat first | exact At.head _ _ | apply At.tail | apply At.app))) (hv := (gE_get (by omega)))
 refine RL.p T ?_
 refine RL.ix T ?_ (hR := fun hs => (Rd.rowh hs (by repeat first | exact At.head _ _ | apply At.tail | apply At.app)))
 refine RL.leN T ?_ (hR := fun hs => (Rd.rowh hs (by repeat first | exact At.head _ _ | apply At.tail | apply At.app))) (hvs := (by exact (rfl : _ = [_, _, _, _, _, _, _, _, _, _, _, _, _])))
 refine RL.s ?_
 refine NV.alloc T rfl rfl rfl (by exact (rfl : _ = [_, _, _, _, _, _, _, _, _, _, _, _, _])) ?_
 intro b4_0
 refine RL.s ?_
 refine NV.sN T rfl rfl rfl (by exact (rfl : _ = [_, _, _, _, _, _, _, _, _, _, _, _, _])) (by exact (rfl : _ = [_, _, _, _, _, _, _, _, _, _, _, _, _])) ?_
 refine RL.nil _ _ _ _ ?_
 refine hK2 _ _ _ ?_
 refine SW.seq_k fun K3 hK3 => ?_
 refine SW.region _ _ _ _ ?_
 refine RL.p T ?_
 refine RL.p T ?_
 refine RL.p T ?_
 first | refine RL.lv1 T ?_ | refine RL.le T ?_ (hR := fun hs => (Rd.rowh hs (by repeat first | exact At.head _ _ | apply At.tail | apply At.app))) (hv := (gE_get (by omega)))
 refine RL.p T ?_
 refine RL.sl T ?_ (h1 := n - 1)
 rw [subA_zero, Nat.sub_zero, Nat.sub_zero]
 refine RL.p T ?_
 refine RL.s ?_
 first
   | refine NV.store_var1 T rfl rfl rfl rfl (by conv => lhs; whnf) rfl (by repeat first | exact At.head _ _ | assumption | exact At.put (by assumption) _ | apply At.tail | apply At.app) rfl rfl ?_
   | refine NV.store_var T rfl rfl rfl (by exact (rfl : _ = [_])) rfl rfl (by repeat first | exact At.head _ _ | assumption | exact At.put (by assumption) _ | apply At.tail | apply At.app) (Nat.le_of_ble_eq_true rfl) rfl ?_
   | refine NV.store_elem T rfl rfl rfl rfl (by conv => lhs; whnf) rfl (by repeat first | exact At.head _ _ | assumption | exact At.put (by assumption) _ | apply At.tail | apply At.app) (by omega) ?_
 refine RL.short (n - 1) ?_ (hat := by exact At.tail (At.tail (At.head _ _)))
 rw [flat_take (enc := EnC) (sz := 13) (fun _ => rfl)]
 refine RL.nil _ _ _ _ ?_
 refine hK3 _ _ _ ?_
 refine SW.seq_k fun K4 hK4 => ?_
 refine SW.region _ _ _ _ ?_
 refine RL.q (QV.vN T rfl rfl rfl rfl rfl (by exact (rfl : _ = [_, _, _, _, _, _, _, _, _, _, _, _, _]))) ?_
 refine RL.p T ?_
 refine RL.p T ?_
 refine RL.nil _ _ _ _ ?_
 refine hK4 _ _ _ ?_
 refine SW.ret ?_
 refine retQ.wk ((.var bq 73 [.int .i64 room, .int .i64 last, .slice a (n - 1) c] :: .row a (n - 1) c 80 13 (List.flatMap EnC (L.take (n - 1))) :: H)) ?_
 refine retQ.rr _ ?_ (hH := fun w hw => hw)
 clear hK4 K4 hK3 K3 hK2 K2 hK1 K1 hK0 K0
 exact ⟨_, rfl, rfl, rfl⟩
theorem mPush {w0 : World} {H : List Chunk} (bq : Nat) (room last : Int) (a : Option Addr) (n c : Nat) (L : List En) (hn : n = L.length) (hm : n ≤ 100) (e : En) : SC Try.prog w0 111 #[.pointer (some ⟨bq, 2, none⟩), .iface 80 (EnA e)] (.var bq 73 [.int .i64 room, .int .i64 last, .slice a n c] :: .row a n c 80 13 (List.flatMap EnC (L)) :: H) (fun v H' => ∃ a' c', H' = .var bq 73 [.int .i64 room, .int .i64 last, .slice a' (n + 1) c'] :: .row a' (n + 1) c' 80 13 (List.flatMap EnC (L ++ [e])) :: H) := by
 refine SC.enter Try.func111 rfl (Nat.le_of_ble_eq_true rfl) ?_
 refine SW.draw [(4, 0), (5, 1), (6, 2), (7, 3), (8, 4), (9, 5), (10, 6), (11, 7), (12, 8)] [[], [], [1], [2, 1], [], [4], [5, 4], [3, 2, 1, 6, 5, 4], [0, 1, 2, 3, 4, 5, 6, 7], [8, 0, 1, 2, 3, 4, 5, 6, 7]] mixed (by kernel_rfl) (by kernel_rfl) ?_
 refine RD.p T ?_
 refine RD.p T ?_
 refine RD.p T ?_
 refine RD.q rfl rfl (Gd.none rfl) (by first | exact QV.load_var1 T rfl rfl rfl rfl (by repeat first | exact At.head _ _ | assumption | exact At.put (by assumption) _ | apply At.tail | apply At.app) rfl | exact QV.load_varN T rfl rfl rfl rfl rfl (by repeat first | exact At.head _ _ | assumption | exact At.put (by assumption) _ | apply At.tail | apply At.app) (by exact (rfl : _ = [_])) rfl | exact QV.load_elem T rfl rfl rfl rfl (by assumption) (by first | exact map_get _ _ (by omega) | assumption)) ?_
 refine RD.p T ?_
 refine RD.q rfl rfl (Gd.none rfl) (QV.tas T rfl rfl rfl) ?_
 refine RD.nv rfl rfl rfl (Gd.none rfl) ?_
 refine NV.build1 T rfl (by conv => lhs; whnf) rfl rfl (by conv => lhs; whnf) (by exact (rfl : _ = some [_, _, _, _, _, _, _, _, _, _, _, _, _])) ?_
 intro b10_0
 refine ⟨(Stab.cons rfl (Gd.none rfl) (by first | exact QV.load_var1 T rfl rfl rfl rfl (by repeat first | exact At.head _ _ | assumption | exact At.put (by assumption) _ | apply At.tail | apply At.app) rfl | exact QV.load_varN T rfl rfl rfl rfl rfl (by repeat first | exact At.head _ _ | assumption | exact At.put (by assumption) _ | apply At.tail | apply At.app) rfl rfl | exact QV.load_elem T rfl rfl rfl rfl (by assumption) (by first | exact map_get _ _ (by omega) | assumption)) (Stab.cons rfl (Gd.none rfl) (pev_sound T rfl) (Stab.cons rfl (Gd.none rfl) (pev_sound T rfl) (Stab.cons rfl (Gd.none rfl) (pev_sound T rfl) Stab.nil)))), ?_⟩
 refine RD.nv rfl rfl rfl (Gd.none rfl) ?_
 refine NV.apR (enc := EnC) T _ (ys := [e]) (fun a5_ c5_ => ?_)
 refine ⟨(Stab.cons rfl (Gd.none rfl) (pev_sound T rfl) Stab.nil), ?_⟩
 refine RD.p T ?_
 refine RD.nv rfl rfl rfl (Gd.none rfl) ?_
 first
   | refine NV.store_var1 T rfl rfl rfl rfl (by conv => lhs; whnf) rfl (by repeat first | exact At.head _ _ | assumption | exact At.put (by assumption) _ | apply At.tail | apply At.app) rfl rfl ?_
   | refine NV.store_var T rfl rfl rfl (by exact (rfl : _ = [_])) rfl rfl (by repeat first | exact At.head _ _ | assumption | exact At.put (by assumption) _ | apply At.tail | apply At.app) (Nat.le_of_ble_eq_true rfl) rfl ?_
   | refine NV.store_elem T rfl rfl rfl rfl (by conv => lhs; whnf) rfl (by repeat first | exact At.head _ _ | assumption | exact At.put (by assumption) _ | apply At.tail | apply At.app) (by omega) ?_
 refine ⟨Stab.nil, ?_⟩
 refine RD.k rfl rfl ?_
 try simp only [thenQ, blockQ, Nat.beq_refl, cond_true]
 refine retQ.wk ((.var bq 73 [.int .i64 room, .int .i64 last, .slice a5_ (n + 1) c5_] :: .row a5_ (n + 1) c5_ 80 13 (List.flatMap EnC (L ++ [e])) :: H)) ?_
 refine retQ.nn _ ?_ (hH := fun w hw => hw)
 exact ⟨_, _, rfl⟩
end Go.Proofs.Ytjemdjjmpgjieaa.M
