import Derived.Test.YtgdnanfnmaafoaaProg
import Derived.Test.YtgdnanfnmaafoaaFG15
set_option linter.unusedVariables false
set_option linter.unusedSimpArgs false
namespace Go.Proofs.Ytgdnanfnmaafoaa.M
open Go Go.Sep Go.Proofs
set_option maxRecDepth 10000
set_option maxHeartbeats 2000000
theorem rleast {w0 : World} {H : List Chunk} (rs : List Rul) (sr : Option Addr) (nr cr : Nat) (hB : Rd w0 H sr nr cr 10 (rs.flatMap RuC)) (hnr : nr = rs.length) (hmr : nr ≤ 140737488351232) (hrs : ∀ k, RuOk (rs.getD k default)) (d : Bool) : SC Try.prog w0 21 #[.agg #[.slice sr nr cr, .bool d]] H (fun v H' => ∃ a c, v = .tuple #[.agg #[.slice a (leastV rs d).1.length c, .bool (leastV rs d).2.1], .int .i64 (leastV rs d).2.2] ∧ H' = .row a (leastV rs d).1.length c 46 10 ((leastV rs d).1.flatMap RuC) :: H) := by
 refine SC.enter Try.func21 rfl (Nat.le_of_ble_eq_true rfl) ?_
 refine SW.seq_k fun K0 hK0 => ?_
 refine SW.region _ _ _ _ ?_
 refine RL.s ?_
 refine NV.box rfl (by exact (rfl : _ = [_, _])) ?_
 intro b1_0
 refine RL.s ?_
 refine NV.alloc T rfl rfl rfl (by exact (rfl : _ = [_, _])) ?_
 intro b2_1
 refine RL.p T ?_
 refine RL.nil _ _ _ _ ?_
 refine hK0 _ _ _ ?_
 refine SW.seq_k fun K1 hK1 => ?_
 refine SW.seq_k fun K2 hK2 => ?_
 refine SW.region _ _ _ _ ?_
 refine RL.lvN T rfl rfl rfl rfl rfl (by repeat first | exact At.head _ _ | assumption | exact At.put (by assumption) _ | apply At.tail | apply At.app) (by exact (rfl : _ = [_, _])) ?_
 refine RL.c fun19 (fun hs => rbcheck rs sr nr cr hB.cons.cons hnr hmr hrs d) ?_
 rintro _ _ ⟨rfl, e⟩; obtain rfl := e.symm
 refine RL.p T ?_
 refine RL.nil _ _ _ _ ?_
 refine hK2 _ _ _ ?_
 refine SW.seq_k fun K3 hK3 => ?_
 refine SW.region _ _ _ _ ?_
 refine RL.p T ?_
 refine RL.p T ?_
 refine RL.nil _ _ _ _ ?_
 refine hK3 _ _ _ ?_
 refine SW.cs (fun hc0 => ?_) (fun hc0 => ?_)
 ·skip
  refine SW.seq_k fun K4 hK4 => ?_
  refine SW.nilrow 46 10 ?_
  refine SW.region _ _ _ _ ?_
  refine RL.s ?_
  first | refine NV.buildc T rfl (rfl : _ = some [_, _]) ?_ | refine NV.buildz T rfl (rfl : _ = some [_, _]) ?_ | refine NV.pure T (rfl : _ = some (Value.agg #[_, _])) ?_
  refine RL.p T ?_
  refine RL.s ?_
  first
    | refine NV.store_var1 T rfl rfl rfl rfl (by conv => lhs; whnf) rfl (by repeat first | exact At.head _ _ | assumption | exact At.put (by assumption) _ | apply At.tail | apply At.app) rfl (by exact (rfl : _ = [_, _])) ?_
    | refine NV.store_var T rfl rfl rfl (by exact (rfl : _ = [_, _])) rfl rfl (by repeat first | exact At.head _ _ | assumption | exact At.put (by assumption) _ | apply At.tail | apply At.app) (Nat.le_of_ble_eq_true rfl) (by exact (rfl : _ = [_, _])) ?_
    | refine NV.store_elem T rfl rfl rfl rfl (by conv => lhs; whnf) rfl (by repeat first | exact At.head _ _ | assumption | exact At.put (by assumption) _ | apply At.tail | apply At.app) (by omega) ?_
  refine RL.p T ?_
  refine RL.nil _ _ _ _ ?_
  refine hK4 _ _ _ ?_
  refine SW.ret ?_
  refine retQ.ret (H' := (.row none 0 0 46 10 (List.flatMap RuC []) :: H)) (by first | exact RVs.var1 T rfl rfl rfl (by repeat first | exact At.head _ _ | assumption | exact At.put (by assumption) _ | apply At.tail | apply At.app) rfl (RVs.tmp (by conv => lhs; whnf) RVs.nil) | exact RVs.varN T rfl rfl rfl rfl (by repeat first | exact At.head _ _ | assumption | exact At.put (by assumption) _ | apply At.tail | apply At.app) (by exact (rfl : _ = [_, _])) rfl (RVs.tmp (by conv => lhs; whnf) RVs.nil)) (fun w hw => Sat.sub (by repeat first | exact List.Sublist.refl _ | apply List.Sublist.cons_cons | apply List.Sublist.cons | exact List.sublist_append_right _ _ | refine List.Sublist.trans ?_ (List.sublist_append_right _ _)) hw) ?_
  clear hK4 K4 hK3 K3 hK2 K2 hK1 K1 hK0 K0
  have e1 := least_bad (d := d) hc0
  exact ⟨none, 0, (by simp only [e1]; rfl), (by simp only [e1]; rfl)⟩
 ·skip
  refine SW.skip ?_
  refine hK1 _ _ _ ?_
  refine SW.seq_k fun K5 hK5 => ?_
  have hc32 := chkB_le (rs := rs) (by omega)
  refine SW.nilrow 46 10 ?_
  refine SW.region _ _ _ _ ?_
  refine RL.p T ?_
  refine RL.lv1 T ?_
  refine RL.s ?_
  first | refine NV.buildc T rfl (rfl : _ = some [_, _]) ?_ | refine NV.buildz T rfl (rfl : _ = some [_, _]) ?_ | refine NV.pure T (rfl : _ = some (Value.agg #[_, _])) ?_
  refine RL.s ?_
  refine NV.alloc T rfl rfl rfl (by exact (rfl : _ = [_, _])) ?_
  intro b5_2
  refine RL.s ?_
  first
    | refine NV.store_var1 T rfl rfl rfl rfl (by conv => lhs; whnf) rfl (by repeat first | exact At.head _ _ | assumption | exact At.put (by assumption) _ | apply At.tail | apply At.app) rfl (by exact (rfl : _ = [_, _])) ?_
    | refine NV.store_var T rfl rfl rfl (by exact (rfl : _ = [_, _])) rfl rfl (by repeat first | exact At.head _ _ | assumption | exact At.put (by assumption) _ | apply At.tail | apply At.app) (Nat.le_of_ble_eq_true rfl) (by exact (rfl : _ = [_, _])) ?_
    | refine NV.store_elem T rfl rfl rfl rfl (by conv => lhs; whnf) rfl (by repeat first | exact At.head _ _ | assumption | exact At.put (by assumption) _ | apply At.tail | apply At.app) (by omega) ?_
  refine RL.nil _ _ _ _ ?_
  refine hK5 _ _ _ ?_
  refine SW.seq_k fun K6 hK6 => ?_
  refine SW.seq_k fun K7 hK7 => ?_
  refine SW.region _ _ _ _ ?_
  refine RL.p T ?_
  refine RL.lv1 T ?_
  refine RL.p T ?_
  refine RL.p T ?_
  refine RL.nil _ _ _ _ ?_
  refine hK7 _ _ _ ?_
  refine SW.block ?_
  refine SW.loopM (fun frB mm fr ds HH => ∃ (k m : Nat) (a : Option Addr) (c : Nat), mm = nr - k ∧ (k ≤ nr ∧ m = (ddK rs k).length) ∧ FrIs [6, 7, 8, 10, 23, 24, 25, 26, 27, 28, 29, 30, 31, 32, 33, 34, 35, 36, 37, 38, 39, 40, 41, 42, 43, 44, 45, 46, 47, 48, 49, 50, 51, 52, 53, 54, 55] frB fr [(23, .int .i64 k)] ∧ ds = [] ∧ HH = (.var b5_2 24 [.slice a m c, .bool d] :: .row a m c 46 10 ((ddK rs k).flatMap RuC) :: .var b2_1 24 [.slice none 0 0, .bool false] :: .var b1_0 24 [.slice sr nr cr, .bool d] :: H)) (n := nr - 0) ?_ ?_
  ·exact ⟨0, 0, none, 0, rfl, ⟨Nat.zero_le _, rfl⟩, (.consI rfl (by first | omega | rfl) (.nil (by repeat first | exact Mx.refl | exact Mx.mix | refine Mx.put rfl ?_ | refine Mx.upd rfl ?_ | refine Mx.updl rfl ?_ | refine Mx.fin rfl ?_ | refine Mx.inner rfl ?_ | refine Mx.none ?_))), rfl, rfl⟩
  ·rintro mm fr ds HH ⟨k, m, a, c, rfl, ⟨hk, hmd⟩, hFr, rfl, eHH⟩
   obtain rfl := eHH.symm
   obtain ⟨frU, rfl⟩ := hFr.eq
   clear hFr
   refine SW.seq_k fun K8 hK8 => ?_
   refine SW.region _ _ _ _ ?_
   refine RL.p T ?_
   refine RL.nil _ _ _ _ ?_
   refine hK8 _ _ _ ?_
   refine SW.seq_k fun K9 hK9 => ?_
   refine SW.cs (fun hc1 => ?_) (fun hc1 => ?_)
   ·skip
    refine SW.skip ?_
    refine hK9 _ _ _ ?_
    refine SW.seq_k fun K10 hK10 => ?_
    refine SW.block ?_
    refine SW.seq_k fun K11 hK11 => ?_
    have hdl := ddK_len rs k
    refine SW.region _ _ _ _ ?_
    refine RL.p T ?_
    refine RL.ix T ?_
    refine RL.leN T ?_ (hq := (by first | exact get_dflt _ (by omega) | exact take_get (by omega) (by omega))) (hvs := (by exact (rfl : _ = [_, _, _, _, _, _, _, _, _, _])))
    refine RL.s ?_
    refine NV.alloc T rfl rfl rfl (by exact (rfl : _ = [_, _, _, _, _, _, _, _, _, _])) ?_
    intro b7_3
    refine RL.p T ?_
    refine RL.s ?_
    first
      | refine NV.store_var1 T rfl rfl rfl rfl (by conv => lhs; whnf) rfl (by repeat first | exact At.head _ _ | assumption | exact At.put (by assumption) _ | apply At.tail | apply At.app) rfl (by exact (rfl : _ = [_, _, _, _, _, _, _, _, _, _])) ?_
      | refine NV.store_var T rfl rfl rfl (by exact (rfl : _ = [_, _, _, _, _, _, _, _, _, _])) rfl rfl (by repeat first | exact At.head _ _ | assumption | exact At.put (by assumption) _ | apply At.tail | apply At.app) (Nat.le_of_ble_eq_true rfl) (by exact (rfl : _ = [_, _, _, _, _, _, _, _, _, _])) ?_
      | refine NV.store_elem T rfl rfl rfl rfl (by conv => lhs; whnf) rfl (by repeat first | exact At.head _ _ | assumption | exact At.put (by assumption) _ | apply At.tail | apply At.app) (by omega) ?_
    refine RL.nil _ _ _ _ ?_
    refine hK11 _ _ _ ?_
    refine SW.seq_k fun K12 hK12 => ?_
    refine SW.region _ _ _ _ ?_
    refine RL.p T ?_
    refine RL.nil _ _ _ _ ?_
    refine hK12 _ _ _ ?_
    refine SW.seq_k fun K13 hK13 => ?_
    refine SW.seq_k fun K14 hK14 => ?_
    refine SW.region _ _ _ _ ?_
    refine RL.p T ?_
    refine RL.lv1 T ?_
    refine RL.p T ?_
    refine RL.sl T ?_ (h1 := k)
    rw [subA_zero, Nat.sub_zero, Nat.sub_zero]
    refine RL.p T ?_
    refine RL.p T ?_
    refine RL.nil _ _ _ _ ?_
    refine hK14 _ _ _ ?_
    refine SW.block ?_
    refine SW.loopM (fun frB mm fr ds HH => ∃ (j : Nat), mm = k - j ∧ (j ≤ k) ∧ FrIs [8, 10, 33, 34, 35, 36, 37, 38, 39, 40, 41, 42, 43, 44, 45, 46] frB fr [(33, .int .i64 j), (8, .bool (decide (kR (rs.getD k default) ∈ (rs.take j).map kR)))] ∧ ds = [] ∧ HH = (.var b7_3 46 (RuC (rs.getD k default)) :: .var b5_2 24 [.slice a m c, .bool d] :: .row a m c 46 10 ((ddK rs k).flatMap RuC) :: .var b2_1 24 [.slice none 0 0, .bool false] :: .var b1_0 24 [.slice sr nr cr, .bool d] :: H)) (n := k - 0) ?_ ?_
    ·exact ⟨0, rfl, Nat.zero_le _, (.consI rfl (by first | omega | rfl) (.cons rfl (.nil (by repeat first | exact Mx.refl | exact Mx.mix | refine Mx.put rfl ?_ | refine Mx.upd rfl ?_ | refine Mx.updl rfl ?_ | refine Mx.fin rfl ?_ | refine Mx.inner rfl ?_ | refine Mx.none ?_)))), rfl, rfl⟩
    ·rintro mm fr ds HH ⟨j, rfl, hjk, hFr, rfl, eHH⟩
     obtain rfl := eHH.symm
     obtain ⟨frU, rfl⟩ := hFr.eq
     clear hFr
     have hBk := Rd.preR (m := k) hB (by omega)
     have hst := fun h => seen_step (rs := rs) (q := (rs.getD k default)) (j := j) h
     refine SW.seq_k fun K15 hK15 => ?_
     refine SW.region _ _ _ _ ?_
     refine RL.p T ?_
     refine RL.nil _ _ _ _ ?_
     refine hK15 _ _ _ ?_
     refine SW.seq_k fun K16 hK16 => ?_
     refine SW.cs (fun hc2 => ?_) (fun hc2 => ?_)
     ·skip
      refine SW.skip ?_
      refine hK16 _ _ _ ?_
      refine SW.seq_k fun K17 hK17 => ?_
      refine SW.block ?_
      refine SW.seq_k fun K18 hK18 => ?_
      replace hst := hst (by omega)
      refine SW.region _ _ _ _ ?_
      refine RL.ix T ?_
      refine RL.leN T ?_ (hq := (by first | exact get_dflt _ (by omega) | exact take_get (by omega) (by omega))) (hvs := (by exact (rfl : _ = [_, _, _, _, _, _, _, _, _, _])))
      refine RL.s ?_
      refine NV.alloc T rfl rfl rfl (by exact (rfl : _ = [_, _, _, _, _, _, _, _, _, _])) ?_
      intro b10_4
      refine RL.s ?_
      first
        | refine NV.store_var1 T rfl rfl rfl rfl (by conv => lhs; whnf) rfl (by repeat first | exact At.head _ _ | assumption | exact At.put (by assumption) _ | apply At.tail | apply At.app) rfl (by exact (rfl : _ = [_, _, _, _, _, _, _, _, _, _])) ?_
        | refine NV.store_var T rfl rfl rfl (by exact (rfl : _ = [_, _, _, _, _, _, _, _, _, _])) rfl rfl (by repeat first | exact At.head _ _ | assumption | exact At.put (by assumption) _ | apply At.tail | apply At.app) (Nat.le_of_ble_eq_true rfl) (by exact (rfl : _ = [_, _, _, _, _, _, _, _, _, _])) ?_
        | refine NV.store_elem T rfl rfl rfl rfl (by conv => lhs; whnf) rfl (by repeat first | exact At.head _ _ | assumption | exact At.put (by assumption) _ | apply At.tail | apply At.app) (by omega) ?_
      refine RL.nil _ _ _ _ ?_
      refine hK18 _ _ _ ?_
      refine SW.seq_k fun K19 hK19 => ?_
      refine SW.region _ _ _ _ ?_
      refine RL.p T ?_
      refine RL.lv1 T ?_
      refine RL.p T ?_
      refine RL.sv1 T ?_
      refine RL.nil _ _ _ _ ?_
      refine hK19 _ _ _ ?_
      refine SW.region _ _ _ _ ?_
      refine RL.p T ?_
      refine RL.p T ?_
      refine RL.join (fr1 := ?_) 3 41 false [42, 43, 44] (fun hs0 hj => ?_) ?_ ?_
      rotate_left
      ·have hs0j := hs0
       try simp only [decide_eq_true_eq, Bool.not_eq_true', decide_eq_false_iff_not, Bool.not_eq_false', Int.not_lt, Int.not_le, Int.toNat_natCast, Bool.and_eq_true, Bool.or_eq_true, Bool.and_eq_false_iff, Bool.or_eq_false_iff] at hs0
       refine RL.lvN T rfl rfl rfl rfl rfl (by repeat first | exact At.head _ _ | assumption | exact At.put (by assumption) _ | apply At.tail | apply At.app) (by exact (rfl : _ = [_, _, _, _, _, _, _, _, _, _])) ?_
       refine RL.lvN T rfl rfl rfl rfl rfl (by repeat first | exact At.head _ _ | assumption | exact At.put (by assumption) _ | apply At.tail | apply At.app) (by exact (rfl : _ = [_, _, _, _, _, _, _, _, _, _])) ?_
       refine RL.s ?_
       refine NV.eqd T PQ rfl rfl rfl guard46 (eq46 (inR (rs.getD j default) (rs.getD k default).inn) (rs.getD k default)) ?_
       exact hj
      ·repeat first | exact Mx.refl | exact Mx.mix | refine Mx.put rfl ?_ | refine Mx.upd rfl ?_ | refine Mx.updl rfl ?_ | refine Mx.fin rfl ?_ | refine Mx.inner rfl ?_ | refine Mx.none ?_
      refine RL.or ?_
      rw [hst]
      refine RL.p T ?_
      refine RL.drop ?_
      refine RL.nil _ _ _ _ ?_
      refine hK17 _ _ _ ?_
      refine SW.region _ _ _ _ ?_
      first | refine RL.ar ?_ | refine RL.p T ?_
      refine RL.p T ?_
      refine RL.nil _ _ _ _ ?_
      exact ⟨k - (j + 1), (by omega), j + 1, (by rfl), by omega, (.consI rfl (by first | omega | rfl) (.cons rfl (.nil (by repeat first | exact Mx.refl | exact Mx.mix | refine Mx.put rfl ?_ | refine Mx.upd rfl ?_ | refine Mx.updl rfl ?_ | refine Mx.fin rfl ?_ | refine Mx.inner rfl ?_ | refine Mx.none ?_)))), rfl, rfl⟩
     ·skip
      refine SW.exit ?_
      refine hK13 _ _ _ ?_
      refine SW.seq_k fun K20 hK20 => ?_
      obtain rfl : k = j := by omega
      refine SW.region _ _ _ _ ?_
      refine RL.p T ?_
      refine RL.p T ?_
      refine RL.nil _ _ _ _ ?_
      refine hK20 _ _ _ ?_
      refine SW.cs (fun hc3 => ?_) (fun hc3 => ?_)
      ·skip
       refine SW.region _ _ _ _ ?_
       refine RL.p T ?_
       refine RL.lv1 T ?_
       refine RL.lvN T rfl rfl rfl rfl rfl (by repeat first | exact At.head _ _ | assumption | exact At.put (by assumption) _ | apply At.tail | apply At.app) (by exact (rfl : _ = [_, _, _, _, _, _, _, _, _, _])) ?_
       refine RL.bs T rfl rfl rfl (by exact (rfl : _ = some [_, _, _, _, _, _, _, _, _, _])) (fun b52_5 => ?_)
       refine RL.apS T ([(rs.getD k default)]) (fun a0_ c0_ => ?_)
       refine RL.p T ?_
       refine RL.sv1 T ?_
       refine RL.nil _ _ _ _ ?_
       refine hK10 _ _ _ ?_
       refine SW.drop ?_
       refine SW.region _ _ _ _ ?_
       first | refine RL.ar ?_ | refine RL.p T ?_
       refine RL.p T ?_
       refine RL.nil _ _ _ _ ?_
       first
         | exact ⟨nr - (k + 1), (by omega), k + 1, m + 1, a0_, c0_, (by rfl), ⟨by omega, by rw [ddK_new (by assumption)]; simp; omega⟩, (.consI rfl (by first | omega | rfl) (.nil (by repeat first | exact Mx.refl | exact Mx.mix | refine Mx.put rfl ?_ | refine Mx.upd rfl ?_ | refine Mx.updl rfl ?_ | refine Mx.fin rfl ?_ | refine Mx.inner rfl ?_ | refine Mx.none ?_))), rfl, (by rw [ddK_new (by assumption)]; rfl)⟩
         | exact ⟨nr - (k + 1), (by omega), k + 1, m, a, c, (by rfl), ⟨by omega, by rw [ddK_old (by assumption)]; exact hmd⟩, (.consI rfl (by first | omega | rfl) (.nil (by repeat first | exact Mx.refl | exact Mx.mix | refine Mx.put rfl ?_ | refine Mx.upd rfl ?_ | refine Mx.updl rfl ?_ | refine Mx.fin rfl ?_ | refine Mx.inner rfl ?_ | refine Mx.none ?_))), rfl, (by rw [ddK_old (by assumption)])⟩
      ·skip
       refine SW.skip ?_
       refine hK10 _ _ _ ?_
       refine SW.drop ?_
       refine SW.region _ _ _ _ ?_
       first | refine RL.ar ?_ | refine RL.p T ?_
       refine RL.p T ?_
       refine RL.nil _ _ _ _ ?_
       first
         | exact ⟨nr - (k + 1), (by omega), k + 1, m + 1, a0_, c0_, (by rfl), ⟨by omega, by rw [ddK_new (by assumption)]; simp; omega⟩, (.consI rfl (by first | omega | rfl) (.nil (by repeat first | exact Mx.refl | exact Mx.mix | refine Mx.put rfl ?_ | refine Mx.upd rfl ?_ | refine Mx.updl rfl ?_ | refine Mx.fin rfl ?_ | refine Mx.inner rfl ?_ | refine Mx.none ?_))), rfl, (by rw [ddK_new (by assumption)]; rfl)⟩
         | exact ⟨nr - (k + 1), (by omega), k + 1, m, a, c, (by rfl), ⟨by omega, by rw [ddK_old (by assumption)]; exact hmd⟩, (.consI rfl (by first | omega | rfl) (.nil (by repeat first | exact Mx.refl | exact Mx.mix | refine Mx.put rfl ?_ | refine Mx.upd rfl ?_ | refine Mx.updl rfl ?_ | refine Mx.fin rfl ?_ | refine Mx.inner rfl ?_ | refine Mx.none ?_))), rfl, (by rw [ddK_old (by assumption)])⟩
   ·skip
    refine SW.exit ?_
    refine hK6 _ _ _ ?_
    refine SW.seq_k fun K21 hK21 => ?_
    refine SW.block ?_
    refine SW.loopM (fun frB mm fr ds HH => ∃ (j : Nat), mm = j + 1 ∧ (j ≤ (ddK rs k).length ∧ trimN (ddK rs k) d (ddK rs k).length = trimN (ddK rs k) d j) ∧ FrIs [56, 57, 58, 59, 60, 61, 62, 63, 64, 65, 66, 67, 68, 69, 70, 71, 72, 73, 74, 75, 76, 77, 78, 79, 80, 81] frB fr [] ∧ ds = [] ∧ HH = (.var b5_2 24 [.slice a j c, .bool d] :: .row a j c 46 10 (((ddK rs k).take j).flatMap RuC) :: .var b2_1 24 [.slice none 0 0, .bool false] :: .var b1_0 24 [.slice sr nr cr, .bool d] :: H)) (n := m + 1) ?_ ?_
    ·exact ⟨m, rfl, ⟨by omega, by rw [hmd]⟩, (.nil (by repeat first | exact Mx.refl | exact Mx.mix | refine Mx.put rfl ?_ | refine Mx.upd rfl ?_ | refine Mx.updl rfl ?_ | refine Mx.fin rfl ?_ | refine Mx.inner rfl ?_ | refine Mx.none ?_)), rfl, (by rw [hmd, List.take_length])⟩
    ·rintro mm fr ds HH ⟨j, rfl, ⟨hj, htr⟩, hFr, rfl, eHH⟩
     obtain rfl := eHH.symm
     obtain ⟨frU, rfl⟩ := hFr.eq
     clear hFr
     have hdl := ddK_len rs k
     refine SW.seq_k fun K22 hK22 => ?_
     refine SW.seq_k fun K23 hK23 => ?_
     skip
     refine SW.drawQ [(56, 0), (57, 1), (58, 2), (59, 3), (60, 4), (61, 5), (62, 6), (63, 7), (64, 8), (65, 9), (66, 10), (67, 11), (68, 12), (69, 13), (70, 14), (71, 15), (72, 16), (73, 17)] [[], [0], [1, 0], [2, 1, 0], [3, 2, 1, 0], [4, 3, 2, 1, 0], [5, 4, 3, 2, 1, 0], [4, 3, 2, 1, 0], [7, 4, 3, 2, 1, 0], [8, 7, 4, 3, 2, 1, 0], [9, 8, 7, 4, 3, 2, 1, 0], [6, 5, 4, 3, 2, 1, 0, 10, 9, 8, 7], [11, 6, 5, 4, 3, 2, 1, 0, 10, 9, 8, 7], [12, 11, 6, 5, 4, 3, 2, 1, 0, 10, 9, 8, 7], [4, 3, 2, 1, 0], [14, 4, 3, 2, 1, 0], [13, 12, 11, 6, 5, 4, 3, 2, 1, 0, 10, 9, 8, 7, 15, 14], [4, 3, 2, 1, 0, 16, 13, 12, 11, 6, 5, 10, 9, 8, 7, 15, 14]] mixed (by kernel_rfl) (by kernel_rfl) ?_
     refine QL.p T ?_
     refine QL.lv1 T ?_
     refine QL.p T ?_
     refine QL.p T ?_
     refine QL.p T ?_
     refine QL.join (fr1 := ?_) 12 60 true [61, 62, 63, 64, 65, 66, 67, 68, 69, 70, 71, 72] (fun hs1 hj => ?_) ?_ ?_
     rotate_left
     ·have hs1j := hs1
      try simp only [decide_eq_true_eq, Bool.not_eq_true', decide_eq_false_iff_not, Bool.not_eq_false', Int.not_lt, Int.not_le, Int.toNat_natCast, Bool.and_eq_true, Bool.or_eq_true, Bool.and_eq_false_iff, Bool.or_eq_false_iff] at hs1
      refine QL.p T ?_
      refine QL.lv1 T ?_
      refine QL.p T ?_
      refine QL.lv1 T ?_
      refine QL.p T ?_
      first | refine QL.ar ?_ | refine QL.p T ?_
      refine QL.ix T ?_
      refine QL.p T ?_
      refine QL.leF T ?_ (hq := (by first | exact get_dflt _ (by omega) | exact take_get (by omega) (by omega)))
      refine QL.p T ?_
      refine QL.lv1 T ?_
      refine QL.p T ?_
      exact hj
     ·repeat first | exact Mx.refl | exact Mx.mix | refine Mx.put rfl ?_ | refine Mx.upd rfl ?_ | refine Mx.updl rfl ?_ | refine Mx.fin rfl ?_ | refine Mx.inner rfl ?_ | refine Mx.none ?_
     refine QL.and ?_
     refine QL.nil ?_
     refine hK23 _ _ _ ?_
     refine SW.cs (fun hc4 => ?_) (fun hc4 => ?_)
     ·skip
      refine SW.skip ?_
      refine hK22 _ _ _ ?_
      refine SW.block ?_
      refine SW.region _ _ _ _ ?_
      refine RL.p T ?_
      refine RL.lv1 T ?_
      refine RL.p T ?_
      refine RL.lv1 T ?_
      refine RL.p T ?_
      first | refine RL.ar ?_ | refine RL.p T ?_
      refine RL.sl T ?_ (h1 := j - 1)
      rw [subA_zero]
      refine RL.short (j - 1) ?_
      rw [flat_take (enc := RuC) RowE.len, List.take_take, Nat.min_eq_left (by omega)]
      refine RL.p T ?_
      refine RL.sv1 T ?_
      refine RL.nil _ _ _ _ ?_
      exact ⟨j - 1 + 1, (by omega), j - 1, (by rfl), ⟨by omega, htr.trans (trim_go (by assumption))⟩, (.nil (by repeat first | exact Mx.refl | exact Mx.mix | refine Mx.put rfl ?_ | refine Mx.upd rfl ?_ | refine Mx.updl rfl ?_ | refine Mx.fin rfl ?_ | refine Mx.inner rfl ?_ | refine Mx.none ?_)), rfl, rfl⟩
     ·skip
      refine SW.exit ?_
      refine hK21 _ _ _ ?_
      refine SW.seq_k fun K24 hK24 => ?_
      refine SW.region _ _ _ _ ?_
      refine RL.lvN T rfl rfl rfl rfl rfl (by repeat first | exact At.head _ _ | assumption | exact At.put (by assumption) _ | apply At.tail | apply At.app) (by exact (rfl : _ = [_, _])) ?_
      refine RL.s ?_
      first
        | refine NV.store_var1 T rfl rfl rfl rfl (by conv => lhs; whnf) rfl (by repeat first | exact At.head _ _ | assumption | exact At.put (by assumption) _ | apply At.tail | apply At.app) rfl (by exact (rfl : _ = [_, _])) ?_
        | refine NV.store_var T rfl rfl rfl (by exact (rfl : _ = [_, _])) rfl rfl (by repeat first | exact At.head _ _ | assumption | exact At.put (by assumption) _ | apply At.tail | apply At.app) (Nat.le_of_ble_eq_true rfl) (by exact (rfl : _ = [_, _])) ?_
        | refine NV.store_elem T rfl rfl rfl rfl (by conv => lhs; whnf) rfl (by repeat first | exact At.head _ _ | assumption | exact At.put (by assumption) _ | apply At.tail | apply At.app) (by omega) ?_
      refine RL.p T ?_
      refine RL.nil _ _ _ _ ?_
      refine hK24 _ _ _ ?_
      refine SW.ret ?_
      refine retQ.ret (H' := (.row a j c 46 10 (((ddK rs k).take j).flatMap RuC) :: H)) (by first | exact RVs.var1 T rfl rfl rfl (by repeat first | exact At.head _ _ | assumption | exact At.put (by assumption) _ | apply At.tail | apply At.app) rfl (RVs.tmp (by conv => lhs; whnf) RVs.nil) | exact RVs.varN T rfl rfl rfl rfl (by repeat first | exact At.head _ _ | assumption | exact At.put (by assumption) _ | apply At.tail | apply At.app) (by exact (rfl : _ = [_, _])) rfl (RVs.tmp (by conv => lhs; whnf) RVs.nil)) (fun w hw => Sat.sub (by repeat first | exact List.Sublist.refl _ | apply List.Sublist.cons_cons | apply List.Sublist.cons | exact List.sublist_append_right _ _ | refine List.Sublist.trans ?_ (List.sublist_append_right _ _)) hw) ?_
      clear hK24 K24 hK23 K23 hK22 K22 hK21 K21 hK9 K9 hK8 K8 hK7 K7 hK6 K6 hK5 K5 hK3 K3 hK2 K2 hK1 K1 hK0 K0
      obtain ⟨e1, e2⟩ := least_end hc0 (by omega) hj htr (trim_stop (by assumption))
      exact ⟨a, c, (by simp only [e1, e2]; try rfl), (by simp only [e1, e2]; try rfl)⟩
end Go.Proofs.Ytgdnanfnmaafoaa.M
