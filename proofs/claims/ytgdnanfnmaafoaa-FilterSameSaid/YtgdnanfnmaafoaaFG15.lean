import Derived.Test.YtgdnanfnmaafoaaProg
import Derived.Test.YtgdnanfnmaafoaaFF15
set_option linter.unusedVariables false
set_option linter.unusedSimpArgs false
namespace Go.Proofs.Ytgdnanfnmaafoaa.M
open Go Go.Sep Go.Proofs
set_option maxRecDepth 10000
set_option maxHeartbeats 2000000
theorem eqQ (q p : Rul) (w : World) : (Op.equal 38 (RuA q) (RuA p)).run Try.prog w = .ok (@decide (RuA p = RuA q) (Classical.propDecidable _)) w := by
  rw [run_equal_agg T PQ (eq38 q p) w, eqR_iff]
  congr 1
  by_cases h : q = p
  · rw [decide_eq_true h, @decide_eq_true _ (Classical.propDecidable _) (RuA_inj.2 h.symm)]
  · rw [decide_eq_false h, @decide_eq_false _ (Classical.propDecidable _) (fun e => h (RuA_inj.1 e).symm)]
theorem eqKs {rs : List Rul} {k : Nat} {ks : List Value} (h : keysOf rs k ks) (q : Rul) : ∀ x ∈ ks, ∀ w, (Op.equal 38 (RuA q) x).run Try.prog w = .ok (@decide (x = RuA q) (Classical.propDecidable _)) w := fun x hx w => by
  obtain ⟨p, _, rfl⟩ := (h x).1 hx
  exact eqQ q (kR p) w
theorem least {w0 : World} {H : List Chunk} (rs : List Rul) (sr : Option Addr) (nr cr : Nat) (hB : Rd w0 H sr nr cr 10 (rs.flatMap RuC)) (hnr : nr = rs.length) (hmr : nr ≤ 140737488351232) (hrs : ∀ k, RuOk (rs.getD k default)) (d : Bool) : SC Try.prog w0 20 #[.agg #[.slice sr nr cr, .bool d]] H (fun v H' => ∃ a c, v = .tuple #[.agg #[.slice a (leastV rs d).1.length c, .bool (leastV rs d).2.1], .int .i64 (leastV rs d).2.2] ∧ H' = .row a (leastV rs d).1.length c 38 10 ((leastV rs d).1.flatMap RuC) :: H) := by
 refine SC.enter Try.func20 rfl (Nat.le_of_ble_eq_true rfl) ?_
 refine SW.seq_k fun K0 hK0 => ?_
 refine SW.region _ _ _ _ ?_
 refine RL.s ?_
 refine NV.box rfl (by exact (rfl : _ = [_, _])) ?_
 intro b1_0
 refine RL.s ?_
 refine NV.alloc T rfl rfl rfl (by exact (rfl : _ = [_, _])) ?_
 intro b2_1
 refine RL.p T ?_
 refine RL.nil _ _ _ _ ?_
 refine hK0 _ _ _ ?_
 refine SW.seq_k fun K1 hK1 => ?_
 refine SW.seq_k fun K2 hK2 => ?_
 refine SW.region _ _ _ _ ?_
 refine RL.lvN T rfl rfl rfl rfl rfl (by repeat first | exact At.head _ _ | assumption | exact At.put (by assumption) _ | apply At.tail | apply At.app) (by exact (rfl : _ = [_, _])) ?_
 refine RL.c fun11 (fun hs => bcheck rs sr nr cr hB.cons.cons hnr hmr hrs d) ?_
 rintro _ _ ⟨rfl, e⟩; obtain rfl := e.symm
 refine RL.p T ?_
 refine RL.nil _ _ _ _ ?_
 refine hK2 _ _ _ ?_
 refine SW.seq_k fun K3 hK3 => ?_
 refine SW.region _ _ _ _ ?_
 refine RL.p T ?_
 refine RL.p T ?_
 refine RL.nil _ _ _ _ ?_
 refine hK3 _ _ _ ?_
 refine SW.cs (fun hc0 => ?_) (fun hc0 => ?_)
 ·skip
  refine SW.seq_k fun K4 hK4 => ?_
  refine SW.nilrow 38 10 ?_
  refine SW.region _ _ _ _ ?_
  refine RL.s ?_
  first | refine NV.buildc T rfl (rfl : _ = some [_, _]) ?_ | refine NV.buildz T rfl (rfl : _ = some [_, _]) ?_ | refine NV.pure T (rfl : _ = some (Value.agg #[_, _])) ?_
  refine RL.p T ?_
  refine RL.s ?_
  first
    | refine NV.store_var1 T rfl rfl rfl rfl (by conv => lhs; whnf) rfl (by repeat first | exact At.head _ _ | assumption | exact At.put (by assumption) _ | apply At.tail | apply At.app) rfl (by exact (rfl : _ = [_, _])) ?_
    | refine NV.store_var T rfl rfl rfl (by exact (rfl : _ = [_, _])) rfl rfl (by repeat first | exact At.head _ _ | assumption | exact At.put (by assumption) _ | apply At.tail | apply At.app) (Nat.le_of_ble_eq_true rfl) (by exact (rfl : _ = [_, _])) ?_
    | refine NV.store_elem T rfl rfl rfl rfl (by conv => lhs; whnf) rfl (by repeat first | exact At.head _ _ | assumption | exact At.put (by assumption) _ | apply At.tail | apply At.app) (by omega) ?_
  refine RL.p T ?_
  refine RL.nil _ _ _ _ ?_
  refine hK4 _ _ _ ?_
  refine SW.ret ?_
  refine retQ.ret (H' := (.row none 0 0 38 10 (List.flatMap RuC []) :: H)) (by first | exact RVs.var1 T rfl rfl rfl (by repeat first | exact At.head _ _ | assumption | exact At.put (by assumption) _ | apply At.tail | apply At.app) rfl (RVs.tmp (by conv => lhs; whnf) RVs.nil) | exact RVs.varN T rfl rfl rfl rfl (by repeat first | exact At.head _ _ | assumption | exact At.put (by assumption) _ | apply At.tail | apply At.app) (by exact (rfl : _ = [_, _])) rfl (RVs.tmp (by conv => lhs; whnf) RVs.nil)) (fun w hw => Sat.sub (by repeat first | exact List.Sublist.refl _ | apply List.Sublist.cons_cons | apply List.Sublist.cons | exact List.sublist_append_right _ _ | refine List.Sublist.trans ?_ (List.sublist_append_right _ _)) hw) ?_
  clear hK4 K4 hK3 K3 hK2 K2 hK1 K1 hK0 K0
  have e1 := least_bad (d := d) hc0
  exact ⟨none, 0, (by simp only [e1]; rfl), (by simp only [e1]; rfl)⟩
 ·skip
  refine SW.skip ?_
  refine hK1 _ _ _ ?_
  refine SW.seq_k fun K5 hK5 => ?_
  have hc32 := chkB_le (rs := rs) (by omega)
  refine SW.nilrow 38 10 ?_
  refine SW.region _ _ _ _ ?_
  refine RL.p T ?_
  refine RL.lv1 T ?_
  refine RL.s ?_
  first | refine NV.buildc T rfl (rfl : _ = some [_, _]) ?_ | refine NV.buildz T rfl (rfl : _ = some [_, _]) ?_ | refine NV.pure T (rfl : _ = some (Value.agg #[_, _])) ?_
  refine RL.s ?_
  refine NV.alloc T rfl rfl rfl (by exact (rfl : _ = [_, _])) ?_
  intro b5_2
  refine RL.s ?_
  first
    | refine NV.store_var1 T rfl rfl rfl rfl (by conv => lhs; whnf) rfl (by repeat first | exact At.head _ _ | assumption | exact At.put (by assumption) _ | apply At.tail | apply At.app) rfl (by exact (rfl : _ = [_, _])) ?_
    | refine NV.store_var T rfl rfl rfl (by exact (rfl : _ = [_, _])) rfl rfl (by repeat first | exact At.head _ _ | assumption | exact At.put (by assumption) _ | apply At.tail | apply At.app) (Nat.le_of_ble_eq_true rfl) (by exact (rfl : _ = [_, _])) ?_
    | refine NV.store_elem T rfl rfl rfl rfl (by conv => lhs; whnf) rfl (by repeat first | exact At.head _ _ | assumption | exact At.put (by assumption) _ | apply At.tail | apply At.app) (by omega) ?_
  refine RL.nil _ _ _ _ ?_
  refine hK5 _ _ _ ?_
  refine SW.seq_k fun K6 hK6 => ?_
  refine SW.region _ _ _ _ ?_
  refine RL.s ?_
  refine NV.mkSet rfl (fun bm => ?_)
  refine RL.p T ?_
  refine RL.nil _ _ _ _ ?_
  refine hK6 _ _ _ ?_
  refine SW.seq_k fun K7 hK7 => ?_
  refine SW.seq_k fun K8 hK8 => ?_
  refine SW.region _ _ _ _ ?_
  refine RL.p T ?_
  refine RL.lv1 T ?_
  refine RL.p T ?_
  refine RL.p T ?_
  refine RL.nil _ _ _ _ ?_
  refine hK8 _ _ _ ?_
  refine SW.block ?_
  refine SW.loopM (fun frB mm fr ds HH => ∃ (k m : Nat) (a : Option Addr) (c : Nat) (ks : List Value), mm = nr - k ∧ (k ≤ nr ∧ m = (ddK rs k).length ∧ keysOf rs k ks) ∧ FrIs [8, 9, 24, 25, 26, 27, 28, 29, 30, 31, 32, 33, 34, 35, 36, 37, 38, 39, 40, 41, 42] frB fr [(24, .int .i64 k)] ∧ ds = [] ∧ HH = (.obj bm (setO ks) :: .var b5_2 35 [.slice a m c, .bool d] :: .row a m c 38 10 ((ddK rs k).flatMap RuC) :: .var b2_1 35 [.slice none 0 0, .bool false] :: .var b1_0 35 [.slice sr nr cr, .bool d] :: H)) (n := nr - 0) ?_ ?_
  ·exact ⟨0, 0, none, 0, [], rfl, ⟨Nat.zero_le _, rfl, keys_0⟩, (.consI rfl (by first | omega | rfl) (.nil (by repeat first | exact Mx.refl | exact Mx.mix | refine Mx.put rfl ?_ | refine Mx.upd rfl ?_ | refine Mx.updl rfl ?_ | refine Mx.fin rfl ?_ | refine Mx.inner rfl ?_ | refine Mx.none ?_))), rfl, rfl⟩
  ·rintro mm fr ds HH ⟨k, m, a, c, ks, rfl, ⟨hk, hmd, hks⟩, hFr, rfl, eHH⟩
   obtain rfl := eHH.symm
   obtain ⟨frU, rfl⟩ := hFr.eq
   clear hFr
   refine SW.seq_k fun K9 hK9 => ?_
   refine SW.region _ _ _ _ ?_
   refine RL.p T ?_
   refine RL.nil _ _ _ _ ?_
   refine hK9 _ _ _ ?_
   refine SW.seq_k fun K10 hK10 => ?_
   refine SW.cs (fun hc1 => ?_) (fun hc1 => ?_)
   ·skip
    refine SW.skip ?_
    refine hK10 _ _ _ ?_
    refine SW.seq_k fun K11 hK11 => ?_
    refine SW.block ?_
    refine SW.seq_k fun K12 hK12 => ?_
    have hdl := ddK_len rs k
    refine SW.region _ _ _ _ ?_
    refine RL.ix T ?_
    refine RL.leN T ?_ (hq := (by first | exact get_dflt _ (by omega) | exact take_get (by omega) (by omega))) (hvs := (by exact (rfl : _ = [_, _, _, _, _, _, _, _, _, _])))
    refine RL.s ?_
    refine NV.alloc T rfl rfl rfl (by exact (rfl : _ = [_, _, _, _, _, _, _, _, _, _])) ?_
    intro b8_3
    refine RL.s ?_
    first
      | refine NV.store_var1 T rfl rfl rfl rfl (by conv => lhs; whnf) rfl (by repeat first | exact At.head _ _ | assumption | exact At.put (by assumption) _ | apply At.tail | apply At.app) rfl (by exact (rfl : _ = [_, _, _, _, _, _, _, _, _, _])) ?_
      | refine NV.store_var T rfl rfl rfl (by exact (rfl : _ = [_, _, _, _, _, _, _, _, _, _])) rfl rfl (by repeat first | exact At.head _ _ | assumption | exact At.put (by assumption) _ | apply At.tail | apply At.app) (Nat.le_of_ble_eq_true rfl) (by exact (rfl : _ = [_, _, _, _, _, _, _, _, _, _])) ?_
      | refine NV.store_elem T rfl rfl rfl rfl (by conv => lhs; whnf) rfl (by repeat first | exact At.head _ _ | assumption | exact At.put (by assumption) _ | apply At.tail | apply At.app) (by omega) ?_
    refine RL.nil _ _ _ _ ?_
    refine hK12 _ _ _ ?_
    refine SW.seq_k fun K13 hK13 => ?_
    refine SW.region _ _ _ _ ?_
    refine RL.lvN T rfl rfl rfl rfl rfl (by repeat first | exact At.head _ _ | assumption | exact At.put (by assumption) _ | apply At.tail | apply At.app) (by exact (rfl : _ = [_, _, _, _, _, _, _, _, _, _])) ?_
    refine RL.s ?_
    refine NV.alloc T rfl rfl rfl (by exact (rfl : _ = [_, _, _, _, _, _, _, _, _, _])) ?_
    intro b9_4
    refine RL.s ?_
    first
      | refine NV.store_var1 T rfl rfl rfl rfl (by conv => lhs; whnf) rfl (by repeat first | exact At.head _ _ | assumption | exact At.put (by assumption) _ | apply At.tail | apply At.app) rfl (by exact (rfl : _ = [_, _, _, _, _, _, _, _, _, _])) ?_
      | refine NV.store_var T rfl rfl rfl (by exact (rfl : _ = [_, _, _, _, _, _, _, _, _, _])) rfl rfl (by repeat first | exact At.head _ _ | assumption | exact At.put (by assumption) _ | apply At.tail | apply At.app) (Nat.le_of_ble_eq_true rfl) (by exact (rfl : _ = [_, _, _, _, _, _, _, _, _, _])) ?_
      | refine NV.store_elem T rfl rfl rfl rfl (by conv => lhs; whnf) rfl (by repeat first | exact At.head _ _ | assumption | exact At.put (by assumption) _ | apply At.tail | apply At.app) (by omega) ?_
    refine RL.nil _ _ _ _ ?_
    refine hK13 _ _ _ ?_
    refine SW.seq_k fun K14 hK14 => ?_
    refine SW.region _ _ _ _ ?_
    refine RL.p T ?_
    refine RL.sv1 T ?_
    refine RL.nil _ _ _ _ ?_
    refine hK14 _ _ _ ?_
    refine SW.seq_k fun K15 hK15 => ?_
    refine SW.seq_k fun K16 hK16 => ?_
    refine SW.region _ _ _ _ ?_
    refine RL.p T ?_
    refine RL.lvN T rfl rfl rfl rfl rfl (by repeat first | exact At.head _ _ | assumption | exact At.put (by assumption) _ | apply At.tail | apply At.app) (by exact (rfl : _ = [_, _, _, _, _, _, _, _, _, _])) ?_
    refine RL.s ?_
    refine QV.nv _ _ _ (fun c hc => by cases hc) (QV.inSet (k := RuA (kR (rs.getD k default))) T rfl rfl rfl rfl rfl rfl rfl (by repeat first | exact At.head _ _ | apply At.tail) (key38 (kR (rs.getD k default))) (eqKs hks (kR (rs.getD k default)))) ?_
    refine RL.p T ?_
    refine RL.nil _ _ _ _ ?_
    refine hK16 _ _ _ ?_
    refine SW.cs (fun hc2 => ?_) (fun hc2 => ?_)
    ·skip
     refine SW.region _ _ _ _ ?_
     refine RL.p T ?_
     refine RL.lv1 T ?_
     refine RL.lvN T rfl rfl rfl rfl rfl (by repeat first | exact At.head _ _ | assumption | exact At.put (by assumption) _ | apply At.tail | apply At.app) (by exact (rfl : _ = [_, _, _, _, _, _, _, _, _, _])) ?_
     refine RL.bs T rfl rfl rfl (by exact (rfl : _ = some [_, _, _, _, _, _, _, _, _, _])) (fun b37_5 => ?_)
     refine RL.apS T ([(rs.getD k default)]) (fun a0_ c0_ => ?_)
     refine RL.p T ?_
     refine RL.sv1 T ?_
     refine RL.nil _ _ _ _ ?_
     refine hK15 _ _ _ ?_
     refine SW.region _ _ _ _ ?_
     refine RL.p T ?_
     refine RL.lvN T rfl rfl rfl rfl rfl (by repeat first | exact At.head _ _ | assumption | exact At.put (by assumption) _ | apply At.tail | apply At.app) (by exact (rfl : _ = [_, _, _, _, _, _, _, _, _, _])) ?_
     refine RL.s ?_
     refine NV.addSet (k := RuA (kR (rs.getD k default))) T rfl rfl rfl rfl rfl rfl (by repeat first | exact At.head _ _ | apply At.tail) (key38 (kR (rs.getD k default))) (eqKs hks (kR (rs.getD k default))) (bits38 (kR (rs.getD k default))) ?_
     refine RL.drop (RL.drop ?_)
     refine RL.nil _ _ _ _ ?_
     refine hK11 _ _ _ ?_
     refine SW.region _ _ _ _ ?_
     first | refine RL.ar ?_ | refine RL.p T ?_
     refine RL.p T ?_
     refine RL.nil _ _ _ _ ?_
     first
       | exact ⟨nr - (k + 1), (by omega), k + 1, m + 1, a0_, c0_, _, (by rfl), ⟨by omega, by rw [ddK_new (fun h => (by assumption : ¬ _ ∈ ks) ((keys_iff hks _).2 h))]; simp; omega, keys_out (by omega) hks⟩, (.consI rfl (by first | omega | rfl) (.nil (by repeat first | exact Mx.refl | exact Mx.mix | refine Mx.put rfl ?_ | refine Mx.upd rfl ?_ | refine Mx.updl rfl ?_ | refine Mx.fin rfl ?_ | refine Mx.inner rfl ?_ | refine Mx.none ?_))), rfl, (by rw [ddK_new (fun h => (by assumption : ¬ _ ∈ ks) ((keys_iff hks _).2 h)), if_neg (by assumption)]; rfl)⟩
       | exact ⟨nr - (k + 1), (by omega), k + 1, m, a, c, _, (by rfl), ⟨by omega, by rw [ddK_old ((keys_iff hks _).1 (by assumption))]; exact hmd, keys_in (by omega) hks (by assumption)⟩, (.consI rfl (by first | omega | rfl) (.nil (by repeat first | exact Mx.refl | exact Mx.mix | refine Mx.put rfl ?_ | refine Mx.upd rfl ?_ | refine Mx.updl rfl ?_ | refine Mx.fin rfl ?_ | refine Mx.inner rfl ?_ | refine Mx.none ?_))), rfl, (by rw [ddK_old ((keys_iff hks _).1 (by assumption)), if_pos (by assumption)]; try rfl)⟩
    ·skip
     refine SW.skip ?_
     refine hK15 _ _ _ ?_
     refine SW.region _ _ _ _ ?_
     refine RL.p T ?_
     refine RL.lvN T rfl rfl rfl rfl rfl (by repeat first | exact At.head _ _ | assumption | exact At.put (by assumption) _ | apply At.tail | apply At.app) (by exact (rfl : _ = [_, _, _, _, _, _, _, _, _, _])) ?_
     refine RL.s ?_
     refine NV.addSet (k := RuA (kR (rs.getD k default))) T rfl rfl rfl rfl rfl rfl (by repeat first | exact At.head _ _ | apply At.tail) (key38 (kR (rs.getD k default))) (eqKs hks (kR (rs.getD k default))) (bits38 (kR (rs.getD k default))) ?_
     refine RL.drop (RL.drop ?_)
     refine RL.nil _ _ _ _ ?_
     refine hK11 _ _ _ ?_
     refine SW.region _ _ _ _ ?_
     first | refine RL.ar ?_ | refine RL.p T ?_
     refine RL.p T ?_
     refine RL.nil _ _ _ _ ?_
     first
       | exact ⟨nr - (k + 1), (by omega), k + 1, m + 1, a0_, c0_, _, (by rfl), ⟨by omega, by rw [ddK_new (fun h => (by assumption : ¬ _ ∈ ks) ((keys_iff hks _).2 h))]; simp; omega, keys_out (by omega) hks⟩, (.consI rfl (by first | omega | rfl) (.nil (by repeat first | exact Mx.refl | exact Mx.mix | refine Mx.put rfl ?_ | refine Mx.upd rfl ?_ | refine Mx.updl rfl ?_ | refine Mx.fin rfl ?_ | refine Mx.inner rfl ?_ | refine Mx.none ?_))), rfl, (by rw [ddK_new (fun h => (by assumption : ¬ _ ∈ ks) ((keys_iff hks _).2 h)), if_neg (by assumption)]; rfl)⟩
       | exact ⟨nr - (k + 1), (by omega), k + 1, m, a, c, _, (by rfl), ⟨by omega, by rw [ddK_old ((keys_iff hks _).1 (by assumption))]; exact hmd, keys_in (by omega) hks (by assumption)⟩, (.consI rfl (by first | omega | rfl) (.nil (by repeat first | exact Mx.refl | exact Mx.mix | refine Mx.put rfl ?_ | refine Mx.upd rfl ?_ | refine Mx.updl rfl ?_ | refine Mx.fin rfl ?_ | refine Mx.inner rfl ?_ | refine Mx.none ?_))), rfl, (by rw [ddK_old ((keys_iff hks _).1 (by assumption)), if_pos (by assumption)]; try rfl)⟩
   ·skip
    refine SW.exit ?_
    refine hK7 _ _ _ ?_
    refine SW.seq_k fun K17 hK17 => ?_
    refine SW.seq_k fun K18 hK18 => ?_
    obtain rfl : k = nr := by omega
    have hdl := ddK_len rs k
    refine SW.region _ _ _ _ ?_
    refine RL.p T ?_
    refine RL.lv1 T ?_
    refine RL.p T ?_
    refine RL.p T ?_
    refine RL.nil _ _ _ _ ?_
    refine hK18 _ _ _ ?_
    refine SW.block ?_
    refine SW.loopM (fun frB mm fr ds HH => ∃ (j : Nat), mm = j + 1 ∧ (j ≤ (ddK rs k).length ∧ trimN (ddK rs k) d (ddK rs k).length = trimN (ddK rs k) d j) ∧ FrIs [10, 46, 47, 48, 49, 50, 51, 52, 53, 54, 55, 56, 57, 58, 59, 60, 61, 62, 63, 64, 65, 66, 67] frB fr [(10, .int .i64 j)] ∧ ds = [] ∧ HH = (.obj bm (setO ks) :: .var b5_2 35 [.slice a j c, .bool d] :: .row a j c 38 10 (((ddK rs k).take j).flatMap RuC) :: .var b2_1 35 [.slice none 0 0, .bool false] :: .var b1_0 35 [.slice sr k cr, .bool d] :: H)) (n := m + 1) ?_ ?_
    ·exact ⟨m, rfl, ⟨by omega, by rw [hmd]⟩, (.consI rfl (by first | omega | rfl) (.nil (by repeat first | exact Mx.refl | exact Mx.mix | refine Mx.put rfl ?_ | refine Mx.upd rfl ?_ | refine Mx.updl rfl ?_ | refine Mx.fin rfl ?_ | refine Mx.inner rfl ?_ | refine Mx.none ?_))), rfl, (by rw [hmd, List.take_length])⟩
    ·rintro mm fr ds HH ⟨j, rfl, ⟨hj, htr⟩, hFr, rfl, eHH⟩
     obtain rfl := eHH.symm
     obtain ⟨frU, rfl⟩ := hFr.eq
     clear hFr
     refine SW.seq_k fun K19 hK19 => ?_
     refine SW.seq_k fun K20 hK20 => ?_
     refine SW.drawQ [(46, 0), (47, 1), (48, 2), (49, 3), (50, 4), (51, 5), (52, 6), (53, 7), (54, 8), (55, 9), (56, 10), (57, 11), (58, 12), (59, 13)] [[], [0], [1, 0], [2, 1, 0], [3, 2, 1, 0], [2, 1, 0], [5, 2, 1, 0], [4, 3, 2, 1, 0, 6, 5], [7, 4, 3, 2, 1, 0, 6, 5], [8, 7, 4, 3, 2, 1, 0, 6, 5], [2, 1, 0], [10, 2, 1, 0], [9, 8, 7, 4, 3, 2, 1, 0, 6, 5, 11, 10], [2, 1, 0, 12, 9, 8, 7, 4, 3, 6, 5, 11, 10]] mixed (by kernel_rfl) (by kernel_rfl) ?_
     refine QL.p T ?_
     refine QL.p T ?_
     refine QL.p T ?_
     refine QL.join (fr1 := ?_) 10 48 true [49, 50, 51, 52, 53, 54, 55, 56, 57, 58] (fun hs0 hj => ?_) ?_ ?_
     rotate_left
     ·have hs0j := hs0
      try simp only [decide_eq_true_eq, Bool.not_eq_true', decide_eq_false_iff_not, Bool.not_eq_false', Int.not_lt, Int.not_le, Int.toNat_natCast, Bool.and_eq_true, Bool.or_eq_true, Bool.and_eq_false_iff, Bool.or_eq_false_iff] at hs0
      refine QL.p T ?_
      refine QL.lv1 T ?_
      refine QL.p T ?_
      first | refine QL.ar ?_ | refine QL.p T ?_
      refine QL.ix T ?_
      refine QL.p T ?_
      refine QL.leF T ?_ (hq := (by first | exact get_dflt _ (by omega) | exact take_get (by omega) (by omega)))
      refine QL.p T ?_
      refine QL.lv1 T ?_
      refine QL.p T ?_
      exact hj
     ·repeat first | exact Mx.refl | exact Mx.mix | refine Mx.put rfl ?_ | refine Mx.upd rfl ?_ | refine Mx.updl rfl ?_ | refine Mx.fin rfl ?_ | refine Mx.inner rfl ?_ | refine Mx.none ?_
     refine QL.and ?_
     refine QL.nil ?_
     refine hK20 _ _ _ ?_
     refine SW.cs (fun hc3 => ?_) (fun hc3 => ?_)
     ·skip
      refine SW.skip ?_
      refine hK19 _ _ _ ?_
      refine SW.seq_k fun K21 hK21 => ?_
      refine SW.block ?_
      refine SW.region _ _ _ _ ?_
      refine RL.p T ?_
      refine RL.lv1 T ?_
      refine RL.p T ?_
      first | refine RL.ar ?_ | refine RL.p T ?_
      refine RL.sl T ?_ (h1 := j - 1)
      rw [subA_zero]
      refine RL.short (j - 1) ?_
      rw [flat_take (enc := RuC) RowE.len, List.take_take, Nat.min_eq_left (by omega)]
      refine RL.p T ?_
      refine RL.sv1 T ?_
      refine RL.nil _ _ _ _ ?_
      refine hK21 _ _ _ ?_
      refine SW.region _ _ _ _ ?_
      refine RL.p T ?_
      first | refine RL.ar ?_ | refine RL.p T ?_
      refine RL.p T ?_
      refine RL.nil _ _ _ _ ?_
      exact ⟨j - 1 + 1, (by omega), j - 1, (by rfl), ⟨by omega, htr.trans (trim_go (by assumption))⟩, (.consI rfl (by first | omega | rfl) (.nil (by repeat first | exact Mx.refl | exact Mx.mix | refine Mx.put rfl ?_ | refine Mx.upd rfl ?_ | refine Mx.updl rfl ?_ | refine Mx.fin rfl ?_ | refine Mx.inner rfl ?_ | refine Mx.none ?_))), rfl, rfl⟩
     ·skip
      refine SW.exit ?_
      refine hK17 _ _ _ ?_
      refine SW.seq_k fun K22 hK22 => ?_
      refine SW.region _ _ _ _ ?_
      refine RL.lvN T rfl rfl rfl rfl rfl (by repeat first | exact At.head _ _ | assumption | exact At.put (by assumption) _ | apply At.tail | apply At.app) (by exact (rfl : _ = [_, _])) ?_
      refine RL.s ?_
      first
        | refine NV.store_var1 T rfl rfl rfl rfl (by conv => lhs; whnf) rfl (by repeat first | exact At.head _ _ | assumption | exact At.put (by assumption) _ | apply At.tail | apply At.app) rfl (by exact (rfl : _ = [_, _])) ?_
        | refine NV.store_var T rfl rfl rfl (by exact (rfl : _ = [_, _])) rfl rfl (by repeat first | exact At.head _ _ | assumption | exact At.put (by assumption) _ | apply At.tail | apply At.app) (Nat.le_of_ble_eq_true rfl) (by exact (rfl : _ = [_, _])) ?_
        | refine NV.store_elem T rfl rfl rfl rfl (by conv => lhs; whnf) rfl (by repeat first | exact At.head _ _ | assumption | exact At.put (by assumption) _ | apply At.tail | apply At.app) (by omega) ?_
      refine RL.p T ?_
      refine RL.nil _ _ _ _ ?_
      refine hK22 _ _ _ ?_
      refine SW.ret ?_
      refine retQ.ret (H' := (.row a j c 38 10 (((ddK rs k).take j).flatMap RuC) :: H)) (by first | exact RVs.var1 T rfl rfl rfl (by repeat first | exact At.head _ _ | assumption | exact At.put (by assumption) _ | apply At.tail | apply At.app) rfl (RVs.tmp (by conv => lhs; whnf) RVs.nil) | exact RVs.varN T rfl rfl rfl rfl (by repeat first | exact At.head _ _ | assumption | exact At.put (by assumption) _ | apply At.tail | apply At.app) (by exact (rfl : _ = [_, _])) rfl (RVs.tmp (by conv => lhs; whnf) RVs.nil)) (fun w hw => Sat.sub (by repeat first | exact List.Sublist.refl _ | apply List.Sublist.cons_cons | apply List.Sublist.cons | exact List.sublist_append_right _ _ | refine List.Sublist.trans ?_ (List.sublist_append_right _ _)) hw) ?_
      clear hK22 K22 hK20 K20 hK19 K19 hK18 K18 hK17 K17 hK10 K10 hK9 K9 hK8 K8 hK7 K7 hK6 K6 hK5 K5 hK3 K3 hK2 K2 hK1 K1 hK0 K0
      obtain ⟨e1, e2⟩ := least_end hc0 hnr hj htr (trim_stop (by assumption))
      exact ⟨a, c, (by simp only [e1, e2]; try rfl), (by simp only [e1, e2]; try rfl)⟩
end Go.Proofs.Ytgdnanfnmaafoaa.M
