import Derived.Test.YthigfghfpmpiiaaDoorProg
import Derived.Test.YthigfghfpmpiiaaDoorFJ20DE
set_option linter.unusedVariables false
set_option linter.unusedSimpArgs false
namespace Go.Proofs.YthigfghfpmpiiaaDoor.M
open Go Go.Sep Go.Proofs
set_option maxRecDepth 10000
set_option maxHeartbeats 2000000
theorem eachF {w0 : World} {H : List Chunk} (sa : Option Addr) (n c : Nat) : SC Tryd.prog w0 21 #[.slice sa n c] H (fun v H' => ∃ b1, v = .func (.func 24) #[] #[.pointer (some ⟨b1, 0, none⟩)] ∧ H' = .var b1 23 [.slice sa n c] :: H) := by
 refine SC.enter Tryd.func21 rfl (Nat.le_of_ble_eq_true rfl) ?_
 refine SW.seq_k fun K0 hK0 => ?_
 refine SW.region _ _ _ _ ?_
 refine RL.s ?_
 refine NV.box rfl (by exact (rfl : _ = [_])) ?_
 intro b1_0
 refine RL.p T ?_
 refine RL.nil _ _ _ _ ?_
 refine hK0 _ _ _ ?_
 refine SW.seq_k fun K1 hK1 => ?_
 refine SW.region _ _ _ _ ?_
 refine RL.p T ?_
 refine RL.p T ?_
 refine RL.nil _ _ _ _ ?_
 refine hK1 _ _ _ ?_
 refine SW.ret ?_
 refine retQ.rr _ ?_ (hH := fun w hw => hw)
 clear hK1 K1 hK0 K0
 exact ⟨_, rfl, rfl⟩
theorem eachIter {w0 : World} {H : List Chunk} (L b1 : Nat) (sa : Option Addr) (n c : Nat) (es : List Int) (hn : n = es.length) (hm : n ≤ 140737488351232) (hB : Byte es) {J J2 : Nat → Option Addr → Nat → Nat → List Chunk → Prop} {X : List Chunk → Prop} (hJ0 : J 0 sa n c H) (hJV : ∀ o a m c HJ, J o a m c HJ → o ≤ n ∧ m = n - o ∧ (∃ kk, At HJ (.var b1 23 [.slice a m c]) kk) ∧ Rd w0 HJ a m c 1 ((es.drop o).map (.int .u8))) (hJ2 : ∀ o a m c HJ, J2 o a m c HJ → (firstS (es.drop o)).2.2 = 0 ∧ (∃ kk, At HJ (.var b1 23 [.slice a m c]) kk ∧ J (o + (firstS (es.drop o)).2.1) (subA a (firstS (es.drop o)).2.1 c 1) (m - (firstS (es.drop o)).2.1) (c - (firstS (es.drop o)).2.1) (kk (.var b1 23 [.slice (subA a (firstS (es.drop o)).2.1 c 1) (m - (firstS (es.drop o)).2.1) (c - (firstS (es.drop o)).2.1)]))) ∧ Rd w0 HJ a m c 1 ((es.drop o).map (.int .u8))) (hround : ∀ o a m c p D HJ, o < n → J o a m c HJ → PdOk w0 D p → mgP p = (firstS (es.drop o)).1 → Yld Tryd.prog w0 none L [PdA p, .int .i64 (firstS (es.drop o)).2.2] (D ++ HJ) (fun v H' => ∃ bb, v = .bool bb ∧ (bb = true → J2 o a m c H') ∧ (bb = false → X H'))) : SC Tryd.prog w0 24 #[.func (.yield L) #[] #[], .pointer (some ⟨b1, 0, none⟩)] H (fun v H' => (∃ a m c, J n a m c H') ∨ X H') := by
 refine SC.enter Tryd.func24 rfl (Nat.le_of_ble_eq_true rfl) ?_
 refine SW.block ?_
 refine SW.loopM (fun frB mm fr ds HH => ∃ (o : Nat) (a : Option Addr) (m c' : Nat) (HJ : List Chunk), mm = n - o + 1 ∧ (J o a m c' HJ) ∧ FrIs [3, 4, 5, 6, 7, 8, 9, 10, 11, 12, 13, 14, 15, 16, 17, 18, 19, 20, 21, 22, 23, 24, 25, 26] frB fr [] ∧ ds = [] ∧ HH = HJ) (n := n - 0 + 1) ?_ ?_
 ·exact ⟨0, sa, n, c, H, rfl, hJ0, (.nil (by repeat first | with_reducible exact Mx.refl | with_reducible exact Mx.mix | refine Mx.put rfl ?_ | refine Mx.upd rfl ?_ | refine Mx.updl rfl ?_ | refine Mx.fin rfl ?_ | refine Mx.inner rfl ?_ | refine Mx.none ?_ | exact Mx.refl | exact Mx.mix)), rfl, rfl⟩
 ·rintro mm fr ds HH ⟨o, a, m, c', HJ, rfl, hJ, hFr, rfl, eHH⟩
  obtain rfl := eHH.symm
  obtain ⟨frU, rfl⟩ := hFr.eq
  clear hFr
  obtain ⟨ho, hmo, ⟨kv, hat⟩, hRk⟩ := hJV o a m c' HJ hJ
  refine SW.seq_k fun K0 hK0 => ?_
  refine SW.seq_k fun K1 hK1 => ?_
  refine SW.region _ _ _ _ ?_
  first | refine RL.lv1 T ?_ | refine RL.le T ?_
  refine RL.p T ?_
  refine RL.p T ?_
  refine RL.nil _ _ _ _ ?_
  refine hK1 _ _ _ ?_
  refine SW.cs (fun hc0 => ?_) (fun hc0 => ?_)
  ·skip
   first
    | (exfalso; first | omega | contradiction | (clear hK1 K1; clear hK0 K0; simp at *; done))
    | (
     refine SW.skip ?_
     refine hK0 _ _ _ ?_
     refine SW.block ?_
     refine SW.seq_k fun K2 hK2 => ?_
     refine SW.region _ _ _ _ ?_
     first | refine RL.lv1 T ?_ | refine RL.le T ?_
     refine RL.c fun25 (fun hs => first a m c' (es.drop o) hRk (by rw [List.length_drop]; omega) (by omega) (hB.drop o)) ?_
     rintro _ _ ⟨D, p, rfl, e, hpo, hpm⟩; obtain rfl := e.symm
     refine RL.p T ?_
     refine RL.p T ?_
     refine RL.p T ?_
     refine RL.p T ?_
     refine RL.s ?_
     refine NV.alloc T rfl rfl rfl (by exact (rfl : _ = [_, _])) ?_
     intro b3_0
     refine RL.s ?_
     refine NV.sN T rfl rfl rfl (by exact (rfl : _ = [_, _])) (by exact (rfl : _ = [_, _])) ?_
     refine RL.p T ?_
     refine RL.p T ?_
     refine RL.nil _ _ _ _ ?_
     refine hK2 _ _ _ ?_
     refine SW.seq_k fun K3 hK3 => ?_
     refine SW.seq_k fun K4 hK4 => ?_
     refine SW.region _ _ _ _ ?_
     refine RL.p T ?_
     refine RL.q (QV.vN T rfl rfl rfl rfl rfl (by exact (rfl : _ = [_, _]))) ?_
     refine RL.p T ?_
     refine RL.s ?_
     refine NV.yield ((Yld.wk (hround o a m c' p D HJ (by omega) hJ hpo hpm)).mono ?_)
     rintro _ HY ⟨bb, rfl, hY1, hY2⟩
     refine RL.p T ?_
     refine RL.p T ?_
     refine RL.join (fr1 := ?_) 2 20 false [21, 22] (fun hs0 hj => ?_) ?_ ?_
     rotate_left
     ·have hs0j := hs0
      try simp only [decide_eq_true_eq, Bool.not_eq_true', decide_eq_false_iff_not, Bool.not_eq_false', Int.not_lt, Int.not_le, Int.toNat_natCast, Bool.and_eq_true, Bool.or_eq_true, Bool.and_eq_false_iff, Bool.or_eq_false_iff] at hs0
      refine RL.p T ?_
      refine RL.p T ?_
      exact hj
     ·repeat first | with_reducible exact Mx.refl | with_reducible exact Mx.mix | refine Mx.put rfl ?_ | refine Mx.upd rfl ?_ | refine Mx.updl rfl ?_ | refine Mx.fin rfl ?_ | refine Mx.inner rfl ?_ | refine Mx.none ?_ | exact Mx.refl | exact Mx.mix
     refine RL.or ?_
     refine RL.nil _ _ _ _ ?_
     refine hK4 _ _ _ ?_
     refine SW.cs (fun hc1 => ?_) (fun hc1 => ?_)
     ·skip
      first
       | (exfalso; first | omega | contradiction | (clear hK4 K4; clear hK3 K3; clear hK2 K2; clear hK1 K1; clear hK0 K0; simp at *; done))
       | (
        refine SW.ret ?_
        skip
        refine retQ.rr _ ?_ (hH := fun w hw => hw)
        clear hK4 K4 hK3 K3 hK2 K2 hK1 K1 hK0 K0
        first
          | (obtain rfl : o = n := by omega
             exact .inl ⟨_, _, _, hJ⟩)
          | (right
             refine hY2 ?_
             cases bb with
             | false => rfl
             | true =>
               have he0 := (hJ2 _ _ _ _ _ (hY1 rfl)).1
               rcases hc1 with h9 | h9
               · cases h9
               · exact absurd he0 h9)
        )
     ·skip
      first
       | (exfalso; first | omega | contradiction | (clear hK4 K4; clear hK3 K3; clear hK2 K2; clear hK1 K1; clear hK0 K0; simp at *; done))
       | (
        refine SW.skip ?_
        refine hK3 _ _ _ ?_
        have hbt : bb = true := by first | assumption | (cases bb <;> simp_all; done)
        obtain ⟨he0, ⟨kv2, hat2, hnx⟩, hRk2⟩ := hJ2 _ _ _ _ _ (hY1 hbt)
        have hadv := first_adv he0
        have hdl : (es.drop o).length = es.length - o := List.length_drop
        refine SW.region _ _ _ _ ?_
        first | refine RL.lv1 T ?_ | refine RL.le T ?_
        refine RL.p T ?_
        refine RL.sl T ?_ (l1 := (firstS (es.drop o)).2.1) (h1 := m) (hR := fun hs => hRk2)
        refine RL.s ?_
        first
          | refine NV.store_var1 T rfl rfl rfl rfl (by conv => lhs; whnf) rfl (by repeat first | exact At.head _ _ | assumption | exact At.put (by assumption) _ | apply At.tail | apply At.app) rfl rfl ?_
          | refine NV.store_var T rfl rfl rfl (by exact (rfl : _ = [_])) rfl rfl (by repeat first | exact At.head _ _ | assumption | exact At.put (by assumption) _ | apply At.tail | apply At.app) (Nat.le_of_ble_eq_true rfl) rfl ?_
          | refine NV.store_elem T rfl rfl rfl rfl (by conv => lhs; whnf) rfl (by repeat first | exact At.head _ _ | assumption | exact At.put (by assumption) _ | apply At.tail | apply At.app) (by omega) ?_
        refine RL.nil _ _ _ _ ?_
        exact ⟨n - (o + (firstS (es.drop o)).2.1) + 1, (by omega), o + (firstS (es.drop o)).2.1, _, _, _, _, (by rfl), hnx, (.nil (by repeat first | with_reducible exact Mx.refl | with_reducible exact Mx.mix | refine Mx.put rfl ?_ | refine Mx.upd rfl ?_ | refine Mx.updl rfl ?_ | refine Mx.fin rfl ?_ | refine Mx.inner rfl ?_ | refine Mx.none ?_ | exact Mx.refl | exact Mx.mix)), rfl, rfl⟩
        )
     )
  ·skip
   first
    | (exfalso; first | omega | contradiction | (clear hK1 K1; clear hK0 K0; simp at *; done))
    | (
     refine SW.exit ?_
     try simp only [thenQ, blockQ, Nat.beq_refl, cond_true]
     skip
     refine retQ.nn _ ?_ (hH := fun w hw => hw)
     clear hK1 K1 hK0 K0
     first
       | (obtain rfl : o = n := by omega
          exact .inl ⟨_, _, _, hJ⟩)
       | (right
          refine hY2 ?_
          cases bb with
          | false => rfl
          | true =>
            have he0 := (hJ2 _ _ _ _ _ (hY1 rfl)).1
            rcases hc1 with h9 | h9
            · cases h9
            · exact absurd he0 h9)
     )
theorem split {w0 : World} {H : List Chunk} (sa : Option Addr) (n c : Nat) (es : List Int) (hR : Rd w0 H sa n c 1 (es.map (.int .u8))) (hn : n = es.length) (hm : n ≤ 140737488351232) (hB : Byte es) : SC Tryd.prog w0 12 #[.slice sa n c] H (fun v H' => ∃ D a c' ps, v = .tuple #[.slice a ps.length c', .int .i64 (splitV es).2] ∧ H' = .row a ps.length c' 38 2 (List.flatMap PdC ps) :: (D ++ H) ∧ mg ps = (splitV es).1 ∧ (∀ y ∈ ps, PdOk w0 D y)) := by
 refine SC.enterM Tryd.func12 rfl (Nat.le_of_ble_eq_true rfl) ?_
 refine SW.seq_k fun K0 hK0 => ?_
 refine SW.region _ _ _ _ ?_
 refine RL.s ?_
 refine NV.alloc T rfl rfl rfl (by exact (rfl : _ = [_])) ?_
 intro b2_0
 refine RL.s ?_
 refine NV.alloc T rfl rfl rfl (by exact (rfl : _ = [_])) ?_
 intro b3_1
 refine RL.nil _ _ _ _ ?_
 refine hK0 _ _ _ ?_
 refine SW.seq_k fun K1 hK1 => ?_
 refine SW.block ?_
 refine SW.seq_k fun K2 hK2 => ?_
 refine SW.region _ _ _ _ ?_
 refine RL.p T ?_
 refine RL.p T ?_
 refine RL.p T ?_
 refine RL.p T ?_
 refine RL.nil _ _ _ _ ?_
 refine hK2 _ _ _ ?_
 refine SW.cs (fun hc0 => ?_) (fun hc0 => ?_)
 ·skip
  first
   | (exfalso; first | omega | contradiction | (clear hK2 K2; clear hK1 K1; clear hK0 K0; simp at *; done))
   | (
    refine SW.seq_k fun K3 hK3 => ?_
    refine SW.nilrow 38 2 ?_
    refine SW.region _ _ _ _ ?_
    refine RL.sv1 T ?_
    refine RL.sv1 T ?_
    refine RL.nil _ _ _ _ ?_
    refine hK3 _ _ _ ?_
    refine SW.ret ?_
    refine Lv.sat fun hs => Lv.nil (H' := (.row none 0 0 38 2 (List.flatMap PdC []) :: ([] ++ H))) (by first | exact RVs.var1 T rfl rfl rfl (by repeat first | exact At.head _ _ | assumption | exact At.put (by assumption) _ | apply At.tail | apply At.app) rfl (by first | exact RVs.var1 T rfl rfl rfl (by repeat first | exact At.head _ _ | assumption | exact At.put (by assumption) _ | apply At.tail | apply At.app) rfl RVs.nil | exact RVs.varN T rfl rfl rfl rfl (by repeat first | exact At.head _ _ | assumption | exact At.put (by assumption) _ | apply At.tail | apply At.app) (by exact (rfl : _ = [_])) rfl RVs.nil) | exact RVs.varN T rfl rfl rfl rfl (by repeat first | exact At.head _ _ | assumption | exact At.put (by assumption) _ | apply At.tail | apply At.app) (by exact (rfl : _ = [_])) rfl (by first | exact RVs.var1 T rfl rfl rfl (by repeat first | exact At.head _ _ | assumption | exact At.put (by assumption) _ | apply At.tail | apply At.app) rfl RVs.nil | exact RVs.varN T rfl rfl rfl rfl (by repeat first | exact At.head _ _ | assumption | exact At.put (by assumption) _ | apply At.tail | apply At.app) (by exact (rfl : _ = [_])) rfl RVs.nil)) (fun w hw => SubL.sat SubL.by hw) ?_
    clear hK3 K3 hK2 K2 hK1 K1 hK0 K0
    have hv : splitV es = ([], 9) := if_pos (List.eq_nil_of_length_eq_zero (by omega))
    exact ⟨[], none, 0, [], (by rw [hv]; rfl), rfl, (by rw [hv]; rfl), by simp⟩
    )
 ·skip
  first
   | (exfalso; first | omega | contradiction | (clear hK2 K2; clear hK1 K1; clear hK0 K0; simp at *; done))
   | (
    refine SW.seq_k fun K4 hK4 => ?_
    refine SW.region _ _ _ _ ?_
    refine RL.p T ?_
    refine RL.p T ?_
    refine RL.p T ?_
    refine RL.p T ?_
    refine RL.nil _ _ _ _ ?_
    refine hK4 _ _ _ ?_
    refine SW.cs (fun hc1 => ?_) (fun hc1 => ?_)
    ·skip
     first
      | (exfalso; first | omega | contradiction | (clear hK4 K4; clear hK2 K2; clear hK1 K1; clear hK0 K0; simp at *; done))
      | (
       refine SW.seq_k fun K5 hK5 => ?_
       refine SW.nilrow 38 2 ?_
       refine SW.region _ _ _ _ ?_
       refine RL.sv1 T ?_
       refine RL.sv1 T ?_
       refine RL.nil _ _ _ _ ?_
       refine hK5 _ _ _ ?_
       refine SW.ret ?_
       refine Lv.sat fun hs => Lv.nil (H' := (.row none 0 0 38 2 (List.flatMap PdC []) :: ([] ++ H))) (by first | exact RVs.var1 T rfl rfl rfl (by repeat first | exact At.head _ _ | assumption | exact At.put (by assumption) _ | apply At.tail | apply At.app) rfl (by first | exact RVs.var1 T rfl rfl rfl (by repeat first | exact At.head _ _ | assumption | exact At.put (by assumption) _ | apply At.tail | apply At.app) rfl RVs.nil | exact RVs.varN T rfl rfl rfl rfl (by repeat first | exact At.head _ _ | assumption | exact At.put (by assumption) _ | apply At.tail | apply At.app) (by exact (rfl : _ = [_])) rfl RVs.nil) | exact RVs.varN T rfl rfl rfl rfl (by repeat first | exact At.head _ _ | assumption | exact At.put (by assumption) _ | apply At.tail | apply At.app) (by exact (rfl : _ = [_])) rfl (by first | exact RVs.var1 T rfl rfl rfl (by repeat first | exact At.head _ _ | assumption | exact At.put (by assumption) _ | apply At.tail | apply At.app) rfl RVs.nil | exact RVs.varN T rfl rfl rfl rfl (by repeat first | exact At.head _ _ | assumption | exact At.put (by assumption) _ | apply At.tail | apply At.app) (by exact (rfl : _ = [_])) rfl RVs.nil)) (fun w hw => SubL.sat SubL.by hw) ?_
       clear hK5 K5 hK4 K4 hK2 K2 hK1 K1 hK0 K0
       have hv : splitV es = ([], 2) := by
         rw [splitV, if_neg (fun e => by have h0 : es.length = 0 := by rw [e]; rfl
                                         omega), if_pos (by omega)]
       exact ⟨[], none, 0, [], (by rw [hv]; rfl), rfl, (by rw [hv]; rfl), by simp⟩
       )
    ·skip
     first
      | (exfalso; first | omega | contradiction | (clear hK4 K4; clear hK2 K2; clear hK1 K1; clear hK0 K0; simp at *; done))
      | (
       refine SW.skip ?_
       refine hK1 _ _ _ ?_
       refine SW.seq_k fun K6 hK6 => ?_
       refine SW.seq_k fun K7 hK7 => ?_
       refine SW.nilrow 38 2 ?_
       have hne : es ≠ [] := fun e => by
         have h0 : es.length = 0 := by rw [e]; rfl
         omega
       have hsv : splitV es = splitF es.length es [] := by rw [splitV, if_neg hne, if_neg (by omega)]
       refine SW.region _ _ _ _ ?_
       refine RL.p T ?_
       refine RL.c fun21 (fun hs => eachF sa n c) ?_
       rintro _ _ ⟨b1, rfl, e⟩; obtain rfl := e.symm
       refine RL.wk (.var b1 23 [.slice sa n c] :: .var b3_1 26 [.int .i64 0] :: .var b2_0 29 [.slice none 0 0] :: .row none 0 0 38 2 (List.flatMap PdC []) :: ([] ++ H)) ?_
       refine RL.nil _ _ _ _ ?_
       refine hK7 _ _ _ ?_
       refine SW.block ?_
       refine SW.rangeF (hfun := fun24) (fun L D LO hY => ?_)
       refine (eachIter L b1 sa n c es hn hm hB (J := fun o a m c' HJ => ∃ (k : Nat) (oa : Option Addr) (oc : Nat) (ps : List Pd) (G : List Chunk) (f : Nat), (o ≤ n ∧ m = n - o ∧ Rd w0 H a m c' 1 ((es.drop o).map (.int .u8)) ∧ (k = ps.length ∧ 8 * k ≤ o) ∧ (∀ y ∈ ps, PdOk w0 G y) ∧ n - o ≤ f ∧ splitF es.length es [] = splitF f (es.drop o) (mg ps)) ∧ HJ = LO .ready none :: .obj D (.deferred (some [])) :: .var b1 23 [.slice a m c'] :: .var b3_1 26 [.int .i64 0] :: .var b2_0 29 [.slice oa k oc] :: .row oa k oc 38 2 (List.flatMap PdC ps) :: (G ++ H)) (J2 := fun o a m c' HJ => ∃ (k : Nat) (oa : Option Addr) (oc : Nat) (ps : List Pd) (G : List Chunk) (f : Nat), (o < n ∧ m = n - o ∧ Rd w0 H a m c' 1 ((es.drop o).map (.int .u8)) ∧ (k = ps.length ∧ 8 * k ≤ o + (firstS (es.drop o)).2.1) ∧ (∀ y ∈ ps, PdOk w0 G y) ∧ n - (o + (firstS (es.drop o)).2.1) ≤ f ∧ (firstS (es.drop o)).2.2 = 0 ∧ splitF es.length es [] = splitF f (es.drop (o + (firstS (es.drop o)).2.1)) (mg ps)) ∧ HJ = LO .ready none :: .obj D (.deferred (some [])) :: .var b1 23 [.slice a m c'] :: .var b3_1 26 [.int .i64 0] :: .var b2_0 29 [.slice oa k oc] :: .row oa k oc 38 2 (List.flatMap PdC ps) :: (G ++ H)) (X := fun HJ => (∃ (a : Option Addr) (m c' : Nat) (e : Int), (splitV es = ([], e)) ∧ HJ = LO .done (some .ret) :: .obj D (.deferred (some [])) :: .var b1 23 [.slice a m c'] :: .var b3_1 26 [.int .i64 e] :: .var b2_0 29 [.slice none 0 0] :: H)) ?_ ?_ ?_ (fun o a m c' p D0 HJ ho hJ hpo hpm => ?_)).mono ?_
       ·exact ⟨0, none, 0, [], [], es.length, ⟨Nat.zero_le _, rfl, hR, ⟨rfl, Nat.zero_le _⟩, (fun _ h => by cases h), by omega, rfl⟩, rfl⟩
       ·skip
        rintro o a m c' HJ ⟨k, oa, oc, ps, G, f, ⟨h1, h2, h3, _⟩, rfl⟩
        exact ⟨h1, h2, ⟨_, (by repeat first | exact At.head _ _ | apply At.tail | apply At.app)⟩, (by repeat first | exact h3 | apply Rd.cons | apply Rd.app)⟩
       ·skip
        rintro o a m c' HJ ⟨k, oa, oc, ps, G, f, ⟨h1, h2, h3, h4, h5, h6, h7, h8⟩, rfl⟩
        have hadv := first_adv h7
        rw [List.length_drop] at hadv
        have h9 := h3.seg (firstS (es.drop o)).2.1 m (by omega) (Nat.le_refl _)
        rw [List.take_of_length_le (by rw [List.length_drop, List.length_drop]; omega), List.drop_drop] at h9
        exact ⟨h7, ⟨_, (by repeat first | exact At.head _ _ | apply At.tail | apply At.app), k, oa, oc, ps, G, f, ⟨by omega, by omega, h9, h4, h5, by omega, h8⟩, rfl⟩, (by repeat first | exact h3 | apply Rd.cons | apply Rd.app)⟩
       ·obtain ⟨k, oa, oc, ps, G, f, ⟨h1, h2, h3, h4, h5, h6, h7⟩, rfl⟩ := hJ
        have hdl : (es.drop o).length = n - o := by rw [List.length_drop]; omega
        have hdn : es.drop o ≠ [] := fun e => by rw [e] at hdl; simp at hdl; omega
        obtain ⟨f1, rfl⟩ : ∃ f1, f = f1 + 1 := ⟨f - 1, by omega⟩
        refine hY (by repeat first | exact At.head _ _ | apply At.tail | apply At.app) rfl ?_
        refine SW.seq_k fun K8 hK8 => ?_
        refine SW.region _ _ _ _ ?_
        refine RL.s ?_
        refine NV.alloc T rfl rfl rfl (by exact (rfl : _ = [_, _])) ?_
        intro b4_2
        refine RL.s ?_
        refine NV.sN T rfl rfl rfl (by exact (rfl : _ = [_, _])) (by exact (rfl : _ = [_, _])) ?_
        refine RL.nil _ _ _ _ ?_
        refine hK8 _ _ _ ?_
        refine SW.region _ _ _ _ ?_
        refine RL.p T ?_
        refine RL.nil _ _ _ _ ?_
        refine ⟨_, (by repeat first | exact At.head _ _ | apply At.tail | apply At.app), ?_⟩
        refine SW.block ?_
        refine SW.seq_k fun K9 hK9 => ?_
        refine SW.seq_k fun K10 hK10 => ?_
        refine SW.region _ _ _ _ ?_
        refine RL.p T ?_
        refine RL.p T ?_
        refine RL.nil _ _ _ _ ?_
        refine hK10 _ _ _ ?_
        refine SW.cs (fun hc2 => ?_) (fun hc2 => ?_)
        ·skip
         first
          | (exfalso; first | omega | contradiction | (clear hK10 K10; clear hK9 K9; clear hK8 K8; clear hK7 K7; clear hK6 K6; clear hK4 K4; clear hK2 K2; clear hK1 K1; clear hK0 K0; simp at *; done))
          | (
           refine SW.seq_k fun K11 hK11 => ?_
           refine SW.region _ _ _ _ ?_
           refine RL.p T ?_
           refine RL.sv1 T ?_
           refine RL.sv1 T ?_
           refine RL.wk (LO .busy none :: .obj D (.deferred (some [])) :: .var b1 23 [.slice a m c'] :: .var b3_1 26 [.int .i64 (firstS (es.drop o)).2.2] :: .var b2_0 29 [.slice none 0 0] :: H) ?_
           refine RL.nil _ _ _ _ ?_
           refine hK11 _ _ _ ?_
           refine SW.ret ?_
           exact ⟨_, (by repeat first | exact At.head _ _ | apply At.tail), false, rfl, (fun h => by cases h), fun _ => ⟨a, m, c', _, (by rw [hsv, h7, splitF_bad hdn (by omega)]), rfl⟩⟩
           )
        ·skip
         first
          | (exfalso; first | omega | contradiction | (clear hK10 K10; clear hK9 K9; clear hK8 K8; clear hK7 K7; clear hK6 K6; clear hK4 K4; clear hK2 K2; clear hK1 K1; clear hK0 K0; simp at *; done))
          | (
           refine SW.skip ?_
           refine hK9 _ _ _ ?_
           have he : (firstS (es.drop o)).2.2 = 0 := by omega
           have hadv := first_adv he
           refine SW.region _ _ _ _ ?_
           refine RL.lv1 T ?_
           refine RL.q (QV.vN T rfl rfl rfl rfl rfl (by exact (rfl : _ = [_, _]))) ?_
           refine RL.bs T rfl rfl rfl (by exact (rfl : _ = some [_, _])) (fun b23_3 => ?_)
           refine RL.apS T ([p]) (fun a0_ c0_ => ?_)
           refine RL.sv1 T ?_
           refine RL.wk (LO .busy none :: .obj D (.deferred (some [])) :: .var b1 23 [.slice a m c'] :: .var b3_1 26 [.int .i64 0] :: .var b2_0 29 [.slice a0_ (k + 1) c0_] :: .row a0_ (k + 1) c0_ 38 2 (List.flatMap PdC (ps ++ [p])) :: ((D0 ++ G) ++ H)) ?_
           refine RL.nil _ _ _ _ ?_
           exact ⟨_, (by repeat first | exact At.head _ _ | apply At.tail), true, rfl, fun _ => ⟨k + 1, a0_, c0_, ps ++ [p], D0 ++ G, f1, ⟨ho, h2, h3, ⟨by simp [h4.1], by omega⟩, (fun y hy => (List.mem_append.1 hy).elim (fun m => (h5 y m).app) (fun m => by rw [List.mem_singleton.1 m]; exact hpo.sub SubL.by)), by omega, he, by rw [h7, splitF_step hdn he, mg_app, ← hpm, List.drop_drop]; rfl⟩, rfl⟩, fun h => by cases h⟩
           )
       ·rintro v HJ (⟨a, m, c', k, oa, oc, ps, G, f, ⟨h1, h2, h3, h4, h5, h6, h7⟩, rfl⟩ | ⟨a, m, c', e, hse, rfl⟩)
        ·refine ⟨_, _, none, At.head _ _, (fun h => by cases h), ?_⟩
         refine hK6 _ _ _ ?_
         refine SW.seq_k fun K12 hK12 => ?_
         refine SW.region _ _ _ _ ?_
         refine RL.lv1 T ?_
         refine RL.sv1 T ?_
         refine RL.sv1 T ?_
         refine RL.nil _ _ _ _ ?_
         refine hK12 _ _ _ ?_
         refine SW.ret ?_
         obtain ⟨hkl, _⟩ := h4
         subst hkl
         refine Lv.mark (by repeat first | exact At.head _ _ | assumption | exact At.put (by assumption) _ | apply At.tail | apply At.app) (Lv.sat fun hs => Lv.nil (H' := (.row oa ps.length oc 38 2 (List.flatMap PdC ps) :: (G ++ H))) (by first | exact RVs.var1 T rfl rfl rfl (by repeat first | exact At.head _ _ | assumption | exact At.put (by assumption) _ | apply At.tail | apply At.app) rfl (by first | exact RVs.var1 T rfl rfl rfl (by repeat first | exact At.head _ _ | assumption | exact At.put (by assumption) _ | apply At.tail | apply At.app) rfl RVs.nil | exact RVs.varN T rfl rfl rfl rfl (by repeat first | exact At.head _ _ | assumption | exact At.put (by assumption) _ | apply At.tail | apply At.app) (by exact (rfl : _ = [_])) rfl RVs.nil) | exact RVs.varN T rfl rfl rfl rfl (by repeat first | exact At.head _ _ | assumption | exact At.put (by assumption) _ | apply At.tail | apply At.app) (by exact (rfl : _ = [_])) rfl (by first | exact RVs.var1 T rfl rfl rfl (by repeat first | exact At.head _ _ | assumption | exact At.put (by assumption) _ | apply At.tail | apply At.app) rfl RVs.nil | exact RVs.varN T rfl rfl rfl rfl (by repeat first | exact At.head _ _ | assumption | exact At.put (by assumption) _ | apply At.tail | apply At.app) (by exact (rfl : _ = [_])) rfl RVs.nil)) (fun w hw => SubL.sat SubL.by hw) ?_)
         clear hK12 K12 hK7 K7 hK6 K6 hK4 K4 hK2 K2 hK1 K1 hK0 K0
         have hv : splitV es = (mg ps, 0) := by rw [hsv, h7, List.drop_of_length_le (by omega), splitF_nil]
         exact ⟨G, oa, oc, ps, (by rw [hv]; rfl), rfl, (by rw [hv]), h5⟩
        ·refine ⟨_, _, some _, At.head _ _, (fun h => by cases h), ?_⟩
         refine SW.nilrow 38 2 ?_
         refine SW.ret ?_
         refine Lv.mark (by repeat first | exact At.head _ _ | assumption | exact At.put (by assumption) _ | apply At.tail | apply At.app) (Lv.sat fun hs => Lv.nil (H' := (.row none 0 0 38 2 (List.flatMap PdC []) :: ([] ++ H))) (by first | exact RVs.var1 T rfl rfl rfl (by repeat first | exact At.head _ _ | assumption | exact At.put (by assumption) _ | apply At.tail | apply At.app) rfl (by first | exact RVs.var1 T rfl rfl rfl (by repeat first | exact At.head _ _ | assumption | exact At.put (by assumption) _ | apply At.tail | apply At.app) rfl RVs.nil | exact RVs.varN T rfl rfl rfl rfl (by repeat first | exact At.head _ _ | assumption | exact At.put (by assumption) _ | apply At.tail | apply At.app) (by exact (rfl : _ = [_])) rfl RVs.nil) | exact RVs.varN T rfl rfl rfl rfl (by repeat first | exact At.head _ _ | assumption | exact At.put (by assumption) _ | apply At.tail | apply At.app) (by exact (rfl : _ = [_])) rfl (by first | exact RVs.var1 T rfl rfl rfl (by repeat first | exact At.head _ _ | assumption | exact At.put (by assumption) _ | apply At.tail | apply At.app) rfl RVs.nil | exact RVs.varN T rfl rfl rfl rfl (by repeat first | exact At.head _ _ | assumption | exact At.put (by assumption) _ | apply At.tail | apply At.app) (by exact (rfl : _ = [_])) rfl RVs.nil)) (fun w hw => SubL.sat SubL.by hw) ?_)
         clear hK7 K7 hK6 K6 hK4 K4 hK2 K2 hK1 K1 hK0 K0
         exact ⟨[], none, 0, [], (by rw [hse]; rfl), rfl, (by rw [hse]; rfl), by simp⟩
       )
    )
end Go.Proofs.YthigfghfpmpiiaaDoor.M
