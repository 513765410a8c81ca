import Derived.Test.YtgdnanfnmaafoaaProg
import Derived.Test.YtgdnanfnmaafoaaFC15
set_option linter.unusedVariables false
set_option linter.unusedSimpArgs false
namespace Go.Proofs.Ytgdnanfnmaafoaa.M
open Go Go.Sep Go.Proofs
set_option maxRecDepth 10000
set_option maxHeartbeats 2000000
theorem bto {w0 : World} {H : List Chunk} (rs : List Rul) (sr : Option Addr) (nr cr : Nat) (hB : Rd w0 H sr nr cr 10 (rs.flatMap RuC)) (hnr : nr = rs.length) (hmr : nr ≤ 4398046511000) (hrs : ∀ k, RuOk (rs.getD k default)) (d : Bool) : SC Try.prog w0 12 #[.agg #[.slice sr nr cr, .bool d]] H (fun v H' => ∃ a c, v = .agg #[.slice a nr c, .bool d] ∧ H' = .row a nr c 38 10 (List.flatMap RuC rs) :: H) := by
 refine SC.enter Try.func12 rfl (Nat.le_of_ble_eq_true rfl) ?_
 refine SW.seq_k fun K0 hK0 => ?_
 refine SW.region _ _ _ _ ?_
 refine RL.s ?_
 refine NV.box rfl (by exact (rfl : _ = [_, _])) ?_
 intro b1_0
 refine RL.s ?_
 refine NV.alloc T rfl rfl rfl (by exact (rfl : _ = [_, _])) ?_
 intro b2_1
 refine RL.nil _ _ _ _ ?_
 refine hK0 _ _ _ ?_
 refine SW.seq_k fun K1 hK1 => ?_
 refine SW.nilrow 38 10 ?_
 refine SW.region _ _ _ _ ?_
 refine RL.p T ?_
 refine RL.lv1 T ?_
 refine RL.s ?_
 first | refine NV.buildc T rfl (rfl : _ = some [_, _]) ?_ | refine NV.buildz T rfl (rfl : _ = some [_, _]) ?_ | refine NV.pure T (rfl : _ = some (Value.agg #[_, _])) ?_
 refine RL.s ?_
 refine NV.alloc T rfl rfl rfl (by exact (rfl : _ = [_, _])) ?_
 intro b3_2
 refine RL.s ?_
 first
   | refine NV.store_var1 T rfl rfl rfl rfl (by conv => lhs; whnf) rfl (by repeat first | exact At.head _ _ | assumption | exact At.put (by assumption) _ | apply At.tail | apply At.app) rfl (by exact (rfl : _ = [_, _])) ?_
   | refine NV.store_var T rfl rfl rfl (by exact (rfl : _ = [_, _])) rfl rfl (by repeat first | exact At.head _ _ | assumption | exact At.put (by assumption) _ | apply At.tail | apply At.app) (Nat.le_of_ble_eq_true rfl) (by exact (rfl : _ = [_, _])) ?_
   | refine NV.store_elem T rfl rfl rfl rfl (by conv => lhs; whnf) rfl (by repeat first | exact At.head _ _ | assumption | exact At.put (by assumption) _ | apply At.tail | apply At.app) (by omega) ?_
 refine RL.nil _ _ _ _ ?_
 refine hK1 _ _ _ ?_
 refine SW.seq_k fun K2 hK2 => ?_
 refine SW.seq_k fun K3 hK3 => ?_
 refine SW.region _ _ _ _ ?_
 refine RL.p T ?_
 refine RL.lv1 T ?_
 refine RL.p T ?_
 refine RL.p T ?_
 refine RL.nil _ _ _ _ ?_
 refine hK3 _ _ _ ?_
 refine SW.block ?_
 refine SW.loopM (fun frB mm fr ds HH => ∃ (k : Nat) (a : Option Addr) (c : Nat), mm = nr - k ∧ (k ≤ nr) ∧ FrIs [5, 12, 13, 14, 15, 16, 17, 18, 19, 20, 21, 22] frB fr [(12, .int .i64 k)] ∧ ds = [] ∧ HH = (.var b3_2 35 [.slice a k c, .bool d] :: .row a k c 38 10 (List.flatMap RuC (rs.take k)) :: .var b2_1 35 [.slice none 0 0, .bool false] :: .var b1_0 24 [.slice sr nr cr, .bool d] :: H)) (n := nr - 0) ?_ ?_
 ·exact ⟨0, none, 0, rfl, Nat.zero_le _, (.consI rfl (by first | omega | rfl) (.nil (by repeat first | exact Mx.refl | exact Mx.mix | refine Mx.put rfl ?_ | refine Mx.upd rfl ?_ | refine Mx.updl rfl ?_ | refine Mx.fin rfl ?_ | refine Mx.inner rfl ?_ | refine Mx.none ?_))), rfl, rfl⟩
 ·rintro mm fr ds HH ⟨k, a, c, rfl, hk, hFr, rfl, eHH⟩
  obtain rfl := eHH.symm
  obtain ⟨frU, rfl⟩ := hFr.eq
  clear hFr
  refine SW.seq_k fun K4 hK4 => ?_
  refine SW.region _ _ _ _ ?_
  refine RL.p T ?_
  refine RL.nil _ _ _ _ ?_
  refine hK4 _ _ _ ?_
  refine SW.seq_k fun K5 hK5 => ?_
  refine SW.cs (fun hc0 => ?_) (fun hc0 => ?_)
  ·skip
   first
    | (exfalso; first | omega | contradiction | (simp at hc0; done))
    | (
     refine SW.skip ?_
     refine hK5 _ _ _ ?_
     refine SW.seq_k fun K6 hK6 => ?_
     refine SW.block ?_
     refine SW.seq_k fun K7 hK7 => ?_
     refine SW.region _ _ _ _ ?_
     refine RL.ix T ?_
     refine RL.leN T ?_ (hvs := (by exact (rfl : _ = [_, _, _, _, _, _, _, _, _, _])))
     refine RL.s ?_
     refine NV.alloc T rfl rfl rfl (by exact (rfl : _ = [_, _, _, _, _, _, _, _, _, _])) ?_
     intro b5_3
     refine RL.s ?_
     first
       | refine NV.store_var1 T rfl rfl rfl rfl (by conv => lhs; whnf) rfl (by repeat first | exact At.head _ _ | assumption | exact At.put (by assumption) _ | apply At.tail | apply At.app) rfl (by exact (rfl : _ = [_, _, _, _, _, _, _, _, _, _])) ?_
       | refine NV.store_var T rfl rfl rfl (by exact (rfl : _ = [_, _, _, _, _, _, _, _, _, _])) rfl rfl (by repeat first | exact At.head _ _ | assumption | exact At.put (by assumption) _ | apply At.tail | apply At.app) (Nat.le_of_ble_eq_true rfl) (by exact (rfl : _ = [_, _, _, _, _, _, _, _, _, _])) ?_
       | refine NV.store_elem T rfl rfl rfl rfl (by conv => lhs; whnf) rfl (by repeat first | exact At.head _ _ | assumption | exact At.put (by assumption) _ | apply At.tail | apply At.app) (by omega) ?_
     refine RL.nil _ _ _ _ ?_
     refine hK7 _ _ _ ?_
     refine SW.region _ _ _ _ ?_
     refine RL.p T ?_
     refine RL.lv1 T ?_
     refine RL.lvN T rfl rfl rfl rfl rfl (by repeat first | exact At.head _ _ | assumption | exact At.put (by assumption) _ | apply At.tail | apply At.app) (by exact (rfl : _ = [_, _, _, _, _, _, _, _, _, _])) ?_
     refine RL.bs T rfl rfl rfl (by exact (rfl : _ = some [_, _, _, _, _, _, _, _, _, _])) (fun b19_4 => ?_)
     refine RL.apS T ([rs.getD k default]) (fun a0_ c0_ => ?_)
     refine RL.p T ?_
     refine RL.sv1 T ?_
     refine RL.drop ?_
     refine RL.nil _ _ _ _ ?_
     refine hK6 _ _ _ ?_
     refine SW.region _ _ _ _ ?_
     first | refine RL.ar ?_ | refine RL.p T ?_
     refine RL.p T ?_
     refine RL.nil _ _ _ _ ?_
     exact ⟨nr - (k + 1), (by omega), k + 1, a0_, c0_, (by rfl), by omega, (.consI rfl (by first | omega | rfl) (.nil (by repeat first | exact Mx.refl | exact Mx.mix | refine Mx.put rfl ?_ | refine Mx.upd rfl ?_ | refine Mx.updl rfl ?_ | refine Mx.fin rfl ?_ | refine Mx.inner rfl ?_ | refine Mx.none ?_))), rfl, (by rw [take_snoc (by omega)]; rfl)⟩
     )
  ·skip
   first
    | (exfalso; first | omega | contradiction | (simp at hc0; done))
    | (
     refine SW.exit ?_
     refine hK2 _ _ _ ?_
     refine SW.seq_k fun K8 hK8 => ?_
     refine SW.region _ _ _ _ ?_
     refine RL.lvN T rfl rfl rfl rfl rfl (by repeat first | exact At.head _ _ | assumption | exact At.put (by assumption) _ | apply At.tail | apply At.app) (by exact (rfl : _ = [_, _])) ?_
     refine RL.s ?_
     first
       | refine NV.store_var1 T rfl rfl rfl rfl (by conv => lhs; whnf) rfl (by repeat first | exact At.head _ _ | assumption | exact At.put (by assumption) _ | apply At.tail | apply At.app) rfl (by exact (rfl : _ = [_, _])) ?_
       | refine NV.store_var T rfl rfl rfl (by exact (rfl : _ = [_, _])) rfl rfl (by repeat first | exact At.head _ _ | assumption | exact At.put (by assumption) _ | apply At.tail | apply At.app) (Nat.le_of_ble_eq_true rfl) (by exact (rfl : _ = [_, _])) ?_
       | refine NV.store_elem T rfl rfl rfl rfl (by conv => lhs; whnf) rfl (by repeat first | exact At.head _ _ | assumption | exact At.put (by assumption) _ | apply At.tail | apply At.app) (by omega) ?_
     refine RL.nil _ _ _ _ ?_
     refine hK8 _ _ _ ?_
     refine SW.ret ?_
     obtain rfl : k = nr := by omega
     rw [List.take_of_length_le (by omega)]
     refine retQ.ret (H' := (.row a k c 38 10 (List.flatMap RuC rs) :: H)) (by first | exact RVs.var1 T rfl rfl rfl (by repeat first | exact At.head _ _ | assumption | exact At.put (by assumption) _ | apply At.tail | apply At.app) rfl RVs.nil | exact RVs.varN T rfl rfl rfl rfl (by repeat first | exact At.head _ _ | assumption | exact At.put (by assumption) _ | apply At.tail | apply At.app) (by exact (rfl : _ = [_, _])) rfl RVs.nil) (fun w hw => Sat.sub (by repeat first | exact List.Sublist.refl _ | apply List.Sublist.cons_cons | apply List.Sublist.cons | exact List.sublist_append_right _ _ | refine List.Sublist.trans ?_ (List.sublist_append_right _ _)) hw) ?_
     clear hK8 K8 hK5 K5 hK4 K4 hK3 K3 hK2 K2 hK1 K1 hK0 K0
     exact ⟨a, c, rfl, rfl⟩
     )
theorem bfrom {w0 : World} {H : List Chunk} (rs : List Rul) (sr : Option Addr) (nr cr : Nat) (hB : Rd w0 H sr nr cr 10 (rs.flatMap RuC)) (hnr : nr = rs.length) (hmr : nr ≤ 4398046511000) (hrs : ∀ k, RuOk (rs.getD k default)) (d : Bool) : SC Try.prog w0 23 #[.agg #[.slice sr nr cr, .bool d]] H (fun v H' => ∃ a c, v = .agg #[.slice a nr c, .bool d] ∧ H' = .row a nr c 46 10 (List.flatMap RuC rs) :: H) := by
 refine SC.enter Try.func23 rfl (Nat.le_of_ble_eq_true rfl) ?_
 refine SW.seq_k fun K0 hK0 => ?_
 refine SW.region _ _ _ _ ?_
 refine RL.s ?_
 refine NV.box rfl (by exact (rfl : _ = [_, _])) ?_
 intro b1_0
 refine RL.s ?_
 refine NV.alloc T rfl rfl rfl (by exact (rfl : _ = [_, _])) ?_
 intro b2_1
 refine RL.nil _ _ _ _ ?_
 refine hK0 _ _ _ ?_
 refine SW.seq_k fun K1 hK1 => ?_
 refine SW.nilrow 46 10 ?_
 refine SW.region _ _ _ _ ?_
 refine RL.p T ?_
 refine RL.lv1 T ?_
 refine RL.s ?_
 first | refine NV.buildc T rfl (rfl : _ = some [_, _]) ?_ | refine NV.buildz T rfl (rfl : _ = some [_, _]) ?_ | refine NV.pure T (rfl : _ = some (Value.agg #[_, _])) ?_
 refine RL.s ?_
 refine NV.alloc T rfl rfl rfl (by exact (rfl : _ = [_, _])) ?_
 intro b3_2
 refine RL.s ?_
 first
   | refine NV.store_var1 T rfl rfl rfl rfl (by conv => lhs; whnf) rfl (by repeat first | exact At.head _ _ | assumption | exact At.put (by assumption) _ | apply At.tail | apply At.app) rfl (by exact (rfl : _ = [_, _])) ?_
   | refine NV.store_var T rfl rfl rfl (by exact (rfl : _ = [_, _])) rfl rfl (by repeat first | exact At.head _ _ | assumption | exact At.put (by assumption) _ | apply At.tail | apply At.app) (Nat.le_of_ble_eq_true rfl) (by exact (rfl : _ = [_, _])) ?_
   | refine NV.store_elem T rfl rfl rfl rfl (by conv => lhs; whnf) rfl (by repeat first | exact At.head _ _ | assumption | exact At.put (by assumption) _ | apply At.tail | apply At.app) (by omega) ?_
 refine RL.nil _ _ _ _ ?_
 refine hK1 _ _ _ ?_
 refine SW.seq_k fun K2 hK2 => ?_
 refine SW.seq_k fun K3 hK3 => ?_
 refine SW.region _ _ _ _ ?_
 refine RL.p T ?_
 refine RL.lv1 T ?_
 refine RL.p T ?_
 refine RL.p T ?_
 refine RL.nil _ _ _ _ ?_
 refine hK3 _ _ _ ?_
 refine SW.block ?_
 refine SW.loopM (fun frB mm fr ds HH => ∃ (k : Nat) (a : Option Addr) (c : Nat), mm = nr - k ∧ (k ≤ nr) ∧ FrIs [5, 12, 13, 14, 15, 16, 17, 18, 19, 20, 21, 22] frB fr [(12, .int .i64 k)] ∧ ds = [] ∧ HH = (.var b3_2 24 [.slice a k c, .bool d] :: .row a k c 46 10 (List.flatMap RuC (rs.take k)) :: .var b2_1 24 [.slice none 0 0, .bool false] :: .var b1_0 35 [.slice sr nr cr, .bool d] :: H)) (n := nr - 0) ?_ ?_
 ·exact ⟨0, none, 0, rfl, Nat.zero_le _, (.consI rfl (by first | omega | rfl) (.nil (by repeat first | exact Mx.refl | exact Mx.mix | refine Mx.put rfl ?_ | refine Mx.upd rfl ?_ | refine Mx.updl rfl ?_ | refine Mx.fin rfl ?_ | refine Mx.inner rfl ?_ | refine Mx.none ?_))), rfl, rfl⟩
 ·rintro mm fr ds HH ⟨k, a, c, rfl, hk, hFr, rfl, eHH⟩
  obtain rfl := eHH.symm
  obtain ⟨frU, rfl⟩ := hFr.eq
  clear hFr
  refine SW.seq_k fun K4 hK4 => ?_
  refine SW.region _ _ _ _ ?_
  refine RL.p T ?_
  refine RL.nil _ _ _ _ ?_
  refine hK4 _ _ _ ?_
  refine SW.seq_k fun K5 hK5 => ?_
  refine SW.cs (fun hc0 => ?_) (fun hc0 => ?_)
  ·skip
   first
    | (exfalso; first | omega | contradiction | (simp at hc0; done))
    | (
     refine SW.skip ?_
     refine hK5 _ _ _ ?_
     refine SW.seq_k fun K6 hK6 => ?_
     refine SW.block ?_
     refine SW.seq_k fun K7 hK7 => ?_
     refine SW.region _ _ _ _ ?_
     refine RL.ix T ?_
     refine RL.leN T ?_ (hvs := (by exact (rfl : _ = [_, _, _, _, _, _, _, _, _, _])))
     refine RL.s ?_
     refine NV.alloc T rfl rfl rfl (by exact (rfl : _ = [_, _, _, _, _, _, _, _, _, _])) ?_
     intro b5_3
     refine RL.s ?_
     first
       | refine NV.store_var1 T rfl rfl rfl rfl (by conv => lhs; whnf) rfl (by repeat first | exact At.head _ _ | assumption | exact At.put (by assumption) _ | apply At.tail | apply At.app) rfl (by exact (rfl : _ = [_, _, _, _, _, _, _, _, _, _])) ?_
       | refine NV.store_var T rfl rfl rfl (by exact (rfl : _ = [_, _, _, _, _, _, _, _, _, _])) rfl rfl (by repeat first | exact At.head _ _ | assumption | exact At.put (by assumption) _ | apply At.tail | apply At.app) (Nat.le_of_ble_eq_true rfl) (by exact (rfl : _ = [_, _, _, _, _, _, _, _, _, _])) ?_
       | refine NV.store_elem T rfl rfl rfl rfl (by conv => lhs; whnf) rfl (by repeat first | exact At.head _ _ | assumption | exact At.put (by assumption) _ | apply At.tail | apply At.app) (by omega) ?_
     refine RL.nil _ _ _ _ ?_
     refine hK7 _ _ _ ?_
     refine SW.region _ _ _ _ ?_
     refine RL.p T ?_
     refine RL.lv1 T ?_
     refine RL.lvN T rfl rfl rfl rfl rfl (by repeat first | exact At.head _ _ | assumption | exact At.put (by assumption) _ | apply At.tail | apply At.app) (by exact (rfl : _ = [_, _, _, _, _, _, _, _, _, _])) ?_
     refine RL.bs T rfl rfl rfl (by exact (rfl : _ = some [_, _, _, _, _, _, _, _, _, _])) (fun b19_4 => ?_)
     refine RL.apS T ([rs.getD k default]) (fun a0_ c0_ => ?_)
     refine RL.p T ?_
     refine RL.sv1 T ?_
     refine RL.drop ?_
     refine RL.nil _ _ _ _ ?_
     refine hK6 _ _ _ ?_
     refine SW.region _ _ _ _ ?_
     first | refine RL.ar ?_ | refine RL.p T ?_
     refine RL.p T ?_
     refine RL.nil _ _ _ _ ?_
     exact ⟨nr - (k + 1), (by omega), k + 1, a0_, c0_, (by rfl), by omega, (.consI rfl (by first | omega | rfl) (.nil (by repeat first | exact Mx.refl | exact Mx.mix | refine Mx.put rfl ?_ | refine Mx.upd rfl ?_ | refine Mx.updl rfl ?_ | refine Mx.fin rfl ?_ | refine Mx.inner rfl ?_ | refine Mx.none ?_))), rfl, (by rw [take_snoc (by omega)]; rfl)⟩
     )
  ·skip
   first
    | (exfalso; first | omega | contradiction | (simp at hc0; done))
    | (
     refine SW.exit ?_
     refine hK2 _ _ _ ?_
     refine SW.seq_k fun K8 hK8 => ?_
     refine SW.region _ _ _ _ ?_
     refine RL.lvN T rfl rfl rfl rfl rfl (by repeat first | exact At.head _ _ | assumption | exact At.put (by assumption) _ | apply At.tail | apply At.app) (by exact (rfl : _ = [_, _])) ?_
     refine RL.s ?_
     first
       | refine NV.store_var1 T rfl rfl rfl rfl (by conv => lhs; whnf) rfl (by repeat first | exact At.head _ _ | assumption | exact At.put (by assumption) _ | apply At.tail | apply At.app) rfl (by exact (rfl : _ = [_, _])) ?_
       | refine NV.store_var T rfl rfl rfl (by exact (rfl : _ = [_, _])) rfl rfl (by repeat first | exact At.head _ _ | assumption | exact At.put (by assumption) _ | apply At.tail | apply At.app) (Nat.le_of_ble_eq_true rfl) (by exact (rfl : _ = [_, _])) ?_
       | refine NV.store_elem T rfl rfl rfl rfl (by conv => lhs; whnf) rfl (by repeat first | exact At.head _ _ | assumption | exact At.put (by assumption) _ | apply At.tail | apply At.app) (by omega) ?_
     refine RL.nil _ _ _ _ ?_
     refine hK8 _ _ _ ?_
     refine SW.ret ?_
     obtain rfl : k = nr := by omega
     rw [List.take_of_length_le (by omega)]
     refine retQ.ret (H' := (.row a k c 46 10 (List.flatMap RuC rs) :: H)) (by first | exact RVs.var1 T rfl rfl rfl (by repeat first | exact At.head _ _ | assumption | exact At.put (by assumption) _ | apply At.tail | apply At.app) rfl RVs.nil | exact RVs.varN T rfl rfl rfl rfl (by repeat first | exact At.head _ _ | assumption | exact At.put (by assumption) _ | apply At.tail | apply At.app) (by exact (rfl : _ = [_, _])) rfl RVs.nil) (fun w hw => Sat.sub (by repeat first | exact List.Sublist.refl _ | apply List.Sublist.cons_cons | apply List.Sublist.cons | exact List.sublist_append_right _ _ | refine List.Sublist.trans ?_ (List.sublist_append_right _ _)) hw) ?_
     clear hK8 K8 hK5 K5 hK4 K4 hK3 K3 hK2 K2 hK1 K1 hK0 K0
     exact ⟨a, c, rfl, rfl⟩
     )
end Go.Proofs.Ytgdnanfnmaafoaa.M
