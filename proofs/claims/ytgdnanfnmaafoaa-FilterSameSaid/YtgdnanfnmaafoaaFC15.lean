import Derived.Test.YtgdnanfnmaafoaaProg
import Derived.Test.YtgdnanfnmaafoaaFB15
set_option linter.unusedVariables false
set_option linter.unusedSimpArgs false
namespace Go.Proofs.Ytgdnanfnmaafoaa.M
open Go Go.Sep Go.Proofs
set_option maxRecDepth 10000
set_option maxHeartbeats 2000000
theorem may {w0 : World} {H : List Chunk} (q : Rul) : SC Try.prog w0 28 #[RuA q] H (fun v H' => v = .bool (mayR q) ∧ H' = H) := by
 refine SC.enter Try.func28 rfl (Nat.le_of_ble_eq_true rfl) ?_
 refine SW.seq_k fun K0 hK0 => ?_
 refine SW.region _ _ _ _ ?_
 refine RL.s ?_
 refine NV.box rfl (by exact (rfl : _ = [_, _, _, _, _, _, _, _, _, _])) ?_
 intro b1_0
 refine RL.p T ?_
 refine RL.nil _ _ _ _ ?_
 refine hK0 _ _ _ ?_
 refine SW.seq_k fun K1 hK1 => ?_
 refine SW.region _ _ _ _ ?_
 refine RL.p T ?_
 refine RL.lv1 T ?_
 refine RL.p T ?_
 refine RL.p T ?_
 refine RL.join (fr1 := ?_) 3 6 true [7, 8, 9] (fun hs0 hj => ?_) ?_ ?_
 rotate_left
 ·have hs0j := hs0
  try simp only [decide_eq_true_eq, Bool.not_eq_true', decide_eq_false_iff_not, Bool.not_eq_false', Int.not_lt, Int.not_le, Int.toNat_natCast, Bool.and_eq_true, Bool.or_eq_true, Bool.and_eq_false_iff, Bool.or_eq_false_iff] at hs0
  refine RL.p T ?_
  refine RL.lv1 T ?_
  refine RL.p T ?_
  exact hj
 ·repeat first | exact Mx.refl | exact Mx.mix | refine Mx.put rfl ?_ | refine Mx.upd rfl ?_ | refine Mx.updl rfl ?_ | refine Mx.fin rfl ?_ | refine Mx.inner rfl ?_ | refine Mx.none ?_
 refine RL.and ?_
 refine RL.p T ?_
 refine RL.nil _ _ _ _ ?_
 refine hK1 _ _ _ ?_
 refine SW.ret ?_
 refine retQ.rr (H) ?_
 clear hK1 K1 hK0 K0
 exact ⟨rfl, rfl⟩
theorem checkQ {w0 : World} {H : List Chunk} (q : Rul) : SC Try.prog w0 27 #[RuA q] H (fun v H' => v = .bool (!mayR q) ∧ H' = H) := by
 refine SC.enter Try.func27 rfl (Nat.le_of_ble_eq_true rfl) ?_
 refine SW.seq_k fun K0 hK0 => ?_
 refine SW.region _ _ _ _ ?_
 refine RL.s ?_
 refine NV.box rfl (by exact (rfl : _ = [_, _, _, _, _, _, _, _, _, _])) ?_
 intro b1_0
 refine RL.p T ?_
 refine RL.nil _ _ _ _ ?_
 refine hK0 _ _ _ ?_
 refine SW.seq_k fun K1 hK1 => ?_
 refine SW.region _ _ _ _ ?_
 refine RL.lvN T rfl rfl rfl rfl rfl (by repeat first | exact At.head _ _ | assumption | exact At.put (by assumption) _ | apply At.tail | apply At.app) (by exact (rfl : _ = [_, _, _, _, _, _, _, _, _, _])) ?_
 refine RL.c fun28 (fun hs => may q) ?_
 rintro _ _ ⟨rfl, e⟩; obtain rfl := e.symm
 refine RL.p T ?_
 refine RL.p T ?_
 refine RL.nil _ _ _ _ ?_
 refine hK1 _ _ _ ?_
 refine SW.ret ?_
 refine retQ.rr (H) ?_
 clear hK1 K1 hK0 K0
 exact ⟨rfl, rfl⟩
theorem indexQ {w0 : World} {H : List Chunk} (rs : List Rul) (sr : Option Addr) (nr cr : Nat) (hB : Rd w0 H sr nr cr 10 (rs.flatMap RuC)) (hnr : nr = rs.length) (hmr : nr ≤ 140737488351232) (hrs : ∀ k, RuOk (rs.getD k default)) : SC Try.prog w0 35 #[.slice sr nr cr, (.func (.func 27) #[] #[])] H (fun v H' => ∃ z, v = .int .i64 z ∧ H' = H ∧ decide (0 ≤ z) = badB rs) := by
 refine SC.enter Try.func35 rfl (Nat.le_of_ble_eq_true rfl) ?_
 refine SW.seq_k fun K0 hK0 => ?_
 refine SW.region _ _ _ _ ?_
 refine RL.p T ?_
 refine RL.nil _ _ _ _ ?_
 refine hK0 _ _ _ ?_
 refine SW.seq_k fun K1 hK1 => ?_
 refine SW.seq_k fun K2 hK2 => ?_
 refine SW.region _ _ _ _ ?_
 refine RL.p T ?_
 refine RL.p T ?_
 refine RL.p T ?_
 refine RL.nil _ _ _ _ ?_
 refine hK2 _ _ _ ?_
 refine SW.block ?_
 refine SW.loopM (fun frB mm fr ds HH => ∃ (k : Nat) , mm = nr - k ∧ (k ≤ nr ∧ ((rs.take k).any (fun q => !mayR q) = false)) ∧ FrIs [4, 5, 8, 9, 10, 11, 12, 13, 14, 15, 16, 17, 18] frB fr [(8, .int .i64 k)] ∧ ds = [] ∧ HH = H) (n := nr - 0) ?_ ?_
 ·exact ⟨0, rfl, ⟨Nat.zero_le _, rfl⟩, (.cons rfl (.nil (by repeat first | exact Mx.refl | exact Mx.mix | refine Mx.put rfl ?_ | refine Mx.upd rfl ?_ | refine Mx.updl rfl ?_ | refine Mx.fin rfl ?_ | refine Mx.inner rfl ?_ | refine Mx.none ?_))), rfl, rfl⟩
 ·rintro mm fr ds HH ⟨k, rfl, ⟨hk, hb⟩, hFr, rfl, eHH⟩
  obtain rfl := eHH.symm
  obtain ⟨frU, rfl⟩ := hFr.eq
  clear hFr
  refine SW.seq_k fun K3 hK3 => ?_
  refine SW.region _ _ _ _ ?_
  refine RL.p T ?_
  refine RL.nil _ _ _ _ ?_
  refine hK3 _ _ _ ?_
  refine SW.seq_k fun K4 hK4 => ?_
  refine SW.cs (fun hc0 => ?_) (fun hc0 => ?_)
  ·skip
   refine SW.skip ?_
   refine hK4 _ _ _ ?_
   refine SW.seq_k fun K5 hK5 => ?_
   refine SW.block ?_
   refine SW.seq_k fun K6 hK6 => ?_
   refine SW.region _ _ _ _ ?_
   refine RL.p T ?_
   refine RL.p T ?_
   refine RL.nil _ _ _ _ ?_
   refine hK6 _ _ _ ?_
   refine SW.seq_k fun K7 hK7 => ?_
   refine SW.region _ _ _ _ ?_
   refine RL.p T ?_
   refine RL.p T ?_
   refine RL.p T ?_
   refine RL.ix T ?_
   refine RL.leN T ?_ (hvs := (by exact (rfl : _ = [_, _, _, _, _, _, _, _, _, _])))
   refine RL.c fun27 (fun hs => checkQ (rs.getD k default)) ?_
   rintro _ _ ⟨rfl, e⟩; obtain rfl := e.symm
   refine RL.nil _ _ _ _ ?_
   refine hK7 _ _ _ ?_
   refine SW.cs (fun hc1 => ?_) (fun hc1 => ?_)
   ·skip
    refine SW.seq_k fun K8 hK8 => ?_
    refine SW.region _ _ _ _ ?_
    refine RL.p T ?_
    refine RL.p T ?_
    refine RL.nil _ _ _ _ ?_
    refine hK8 _ _ _ ?_
    refine SW.ret ?_
    refine retQ.rr (H) ?_
    clear hK8 K8 hK7 K7 hK6 K6 hK5 K5 hK4 K4 hK3 K3 hK2 K2 hK1 K1 hK0 K0
    first
      | exact ⟨_, rfl, rfl, (by unfold badB; rw [any_hit (k := k) (by omega) (by simp only [hc1, Bool.not_false])]; simp)⟩
      | exact ⟨_, rfl, rfl, (by unfold badB; rw [any_end (k := k) (by omega) hb]; rfl)⟩
   ·skip
    refine SW.skip ?_
    refine hK5 _ _ _ ?_
    refine SW.region _ _ _ _ ?_
    first | refine RL.ar ?_ | refine RL.p T ?_
    refine RL.p T ?_
    refine RL.nil _ _ _ _ ?_
    exact ⟨nr - (k + 1), (by omega), k + 1, (by rfl), ⟨by omega, any_step (by omega) hb (by simp only [hc1, Bool.not_true])⟩, (.cons rfl (.nil (by repeat first | exact Mx.refl | exact Mx.mix | refine Mx.put rfl ?_ | refine Mx.upd rfl ?_ | refine Mx.updl rfl ?_ | refine Mx.fin rfl ?_ | refine Mx.inner rfl ?_ | refine Mx.none ?_))), rfl, rfl⟩
  ·skip
   refine SW.exit ?_
   refine hK1 _ _ _ ?_
   refine SW.seq_k fun K9 hK9 => ?_
   refine SW.region _ _ _ _ ?_
   refine RL.p T ?_
   refine RL.nil _ _ _ _ ?_
   refine hK9 _ _ _ ?_
   refine SW.ret ?_
   refine retQ.rr (H) ?_
   clear hK9 K9 hK4 K4 hK3 K3 hK2 K2 hK1 K1 hK0 K0
   first
     | exact ⟨_, rfl, rfl, (by unfold badB; rw [any_hit (k := k) (by omega) (by simp only [hc1, Bool.not_false])]; simp)⟩
     | exact ⟨_, rfl, rfl, (by unfold badB; rw [any_end (k := k) (by omega) hb]; rfl)⟩
theorem hasQ {w0 : World} {H : List Chunk} (rs : List Rul) (sr : Option Addr) (nr cr : Nat) (hB : Rd w0 H sr nr cr 10 (rs.flatMap RuC)) (hnr : nr = rs.length) (hmr : nr ≤ 140737488351232) (hrs : ∀ k, RuOk (rs.getD k default)) : SC Try.prog w0 29 #[.slice sr nr cr, (.func (.func 27) #[] #[])] H (fun v H' => v = .bool (badB rs) ∧ H' = H) := by
 refine SC.enter Try.func29 rfl (Nat.le_of_ble_eq_true rfl) ?_
 refine SW.seq_k fun K0 hK0 => ?_
 refine SW.region _ _ _ _ ?_
 refine RL.p T ?_
 refine RL.nil _ _ _ _ ?_
 refine hK0 _ _ _ ?_
 refine SW.seq_k fun K1 hK1 => ?_
 refine SW.region _ _ _ _ ?_
 refine RL.p T ?_
 refine RL.p T ?_
 refine RL.c fun35 (fun hs => indexQ rs sr nr cr hB hnr hmr hrs) ?_
 rintro _ _ ⟨z, rfl, e, hz⟩; obtain rfl := e.symm
 refine RL.p T ?_
 refine RL.p T ?_
 refine RL.nil _ _ _ _ ?_
 refine hK1 _ _ _ ?_
 refine SW.ret ?_
 refine retQ.rr (H) ?_
 clear hK1 K1 hK0 K0
 refine ⟨boolE ?_, rfl⟩; rw [← hz]
theorem bcheck {w0 : World} {H : List Chunk} (rs : List Rul) (sr : Option Addr) (nr cr : Nat) (hB : Rd w0 H sr nr cr 10 (rs.flatMap RuC)) (hnr : nr = rs.length) (hmr : nr ≤ 140737488351232) (hrs : ∀ k, RuOk (rs.getD k default)) (d : Bool) : SC Try.prog w0 11 #[.agg #[.slice sr nr cr, .bool d]] H (fun v H' => v = .int .i64 (chkB rs) ∧ H' = H) := by
 refine SC.enter Try.func11 rfl (Nat.le_of_ble_eq_true rfl) ?_
 refine SW.seq_k fun K0 hK0 => ?_
 refine SW.region _ _ _ _ ?_
 refine RL.s ?_
 refine NV.box rfl (by exact (rfl : _ = [_, _])) ?_
 intro b1_0
 refine RL.p T ?_
 refine RL.nil _ _ _ _ ?_
 refine hK0 _ _ _ ?_
 refine SW.seq_k fun K1 hK1 => ?_
 refine SW.region _ _ _ _ ?_
 refine RL.p T ?_
 refine RL.nil _ _ _ _ ?_
 refine hK1 _ _ _ ?_
 refine SW.seq_k fun K2 hK2 => ?_
 refine SW.seq_k fun K3 hK3 => ?_
 refine SW.region _ _ _ _ ?_
 refine RL.p T ?_
 refine RL.lv1 T ?_
 refine RL.p T ?_
 refine RL.p T ?_
 refine RL.p T ?_
 refine RL.join (fr1 := ?_) 4 8 false [9, 10, 11, 12] (fun hs0 hj => ?_) ?_ ?_
 rotate_left
 ·have hs0j := hs0
  try simp only [decide_eq_true_eq, Bool.not_eq_true', decide_eq_false_iff_not, Bool.not_eq_false', Int.not_lt, Int.not_le, Int.toNat_natCast, Bool.and_eq_true, Bool.or_eq_true, Bool.and_eq_false_iff, Bool.or_eq_false_iff] at hs0
  refine RL.p T ?_
  refine RL.lv1 T ?_
  refine RL.p T ?_
  refine RL.c fun29 (fun hs => hasQ rs sr nr cr hB.cons hnr hmr hrs) ?_
  rintro _ _ ⟨rfl, e⟩; obtain rfl := e.symm
  exact hj
 ·repeat first | exact Mx.refl | exact Mx.mix | refine Mx.put rfl ?_ | refine Mx.upd rfl ?_ | refine Mx.updl rfl ?_ | refine Mx.fin rfl ?_ | refine Mx.inner rfl ?_ | refine Mx.none ?_
 refine RL.or ?_
 refine RL.nil _ _ _ _ ?_
 refine hK3 _ _ _ ?_
 refine SW.cs (fun hc0 => ?_) (fun hc0 => ?_)
 ·skip
  refine SW.seq_k fun K4 hK4 => ?_
  refine SW.region _ _ _ _ ?_
  refine RL.p T ?_
  refine RL.nil _ _ _ _ ?_
  refine hK4 _ _ _ ?_
  refine SW.ret ?_
  refine retQ.rr (H) ?_
  clear hK4 K4 hK3 K3 hK2 K2 hK1 K1 hK0 K0
  refine ⟨intE ?_, rfl⟩
  first
    | exact (chkB_bad (hc0.imp (by omega) id)).symm
    | exact (chkB_ok (by omega) hc0.2).symm
 ·skip
  refine SW.skip ?_
  refine hK2 _ _ _ ?_
  refine SW.seq_k fun K5 hK5 => ?_
  refine SW.region _ _ _ _ ?_
  refine RL.p T ?_
  refine RL.nil _ _ _ _ ?_
  refine hK5 _ _ _ ?_
  refine SW.ret ?_
  refine retQ.rr (H) ?_
  clear hK5 K5 hK3 K3 hK2 K2 hK1 K1 hK0 K0
  refine ⟨intE ?_, rfl⟩
  first
    | exact (chkB_bad (hc0.imp (by omega) id)).symm
    | exact (chkB_ok (by omega) hc0.2).symm
theorem qof {w0 : World} {H : List Chunk} (q : Rul) (hq : RuOk q) (f : Frm) (sa : Option Addr) (n c : Nat) (hR : Rd w0 H sa n c 1 (f.data.map (.int .u8))) (hn : n = f.data.length) (hm : n ≤ 140737488351232) (hf : FrOk f) (k0 : 1 ≤ q.kinds) (k1 : q.kinds ≤ 7) (j0 : 1 ≤ f.kind) (j1 : f.kind ≤ 3) : SC Try.prog w0 30 #[RuA q, FA f sa n c] H (fun v H' => v = .bool (ofR q f) ∧ H' = H) := by
 refine SC.enter Try.func30 rfl (Nat.le_of_ble_eq_true rfl) ?_
 refine SW.seq_k fun K0 hK0 => ?_
 refine SW.region _ _ _ _ ?_
 refine RL.s ?_
 refine NV.box rfl (by exact (rfl : _ = [_, _, _, _, _, _, _, _, _, _])) ?_
 intro b2_0
 refine RL.s ?_
 refine NV.box rfl (by exact (rfl : _ = [_, _, _, _, _, _, _, _, _, _, _])) ?_
 intro b3_1
 refine RL.p T ?_
 refine RL.nil _ _ _ _ ?_
 refine hK0 _ _ _ ?_
 refine SW.seq_k fun K1 hK1 => ?_
 refine SW.region _ _ _ _ ?_
 refine RL.p T ?_
 refine RL.lv1 T ?_
 refine RL.p T ?_
 refine RL.lv1 T ?_
 refine RL.p T ?_
 refine RL.p T ?_
 refine RL.lv1 T ?_
 refine RL.p T ?_
 refine RL.p T ?_
 refine RL.lv1 T ?_
 refine RL.p T ?_
 refine RL.lv1 T ?_
 refine RL.p T ?_
 refine RL.p T ?_
 refine RL.lv1 T ?_
 refine RL.p T ?_
 refine RL.p T ?_
 refine RL.p T ?_
 refine RL.lv1 T ?_
 refine RL.p T ?_
 refine RL.lv1 T ?_
 refine RL.p T ?_
 refine RL.p T ?_
 refine RL.lv1 T ?_
 refine RL.p T ?_
 first | refine RL.cv T ?_ | refine RL.p T ?_ | refine RL.ts T ?_
 refine RL.p T ?_
 refine RL.p T ?_
 refine RL.lv1 T ?_
 refine RL.p T ?_
 refine RL.lv1 T ?_
 refine RL.p T ?_
 refine RL.p T ?_
 refine RL.lv1 T ?_
 refine RL.p T ?_
 first | refine RL.cv T ?_ | refine RL.p T ?_ | refine RL.ts T ?_
 refine RL.p T ?_
 refine RL.p T ?_
 refine RL.nil _ _ _ _ ?_
 refine hK1 _ _ _ ?_
 refine SW.seq_k fun K2 hK2 => ?_
 refine SW.region _ _ _ _ ?_
 refine RL.p T ?_
 refine RL.lv1 T ?_
 refine RL.p T ?_
 refine RL.lv1 T ?_
 first | refine RL.ar ?_ | refine RL.p T ?_
 first | refine RL.q (QV.shrP rfl rfl rfl (by exact (rfl : _ = ((_ : Nat) : Int))) (by omega) rfl) ?_ | refine RL.q (QV.shift rfl rfl rfl (by omega) (.inr ⟨rfl, rfl⟩)) ?_
 refine RL.p T ?_
 refine RL.p T ?_
 refine RL.p T ?_
 refine RL.join (fr1 := ?_) 2 51 true [52, 53] (fun hs0 hj => ?_) ?_ ?_
 rotate_left
 ·have hs0j := hs0
  try simp only [decide_eq_true_eq, Bool.not_eq_true', decide_eq_false_iff_not, Bool.not_eq_false', Int.not_lt, Int.not_le, Int.toNat_natCast, Bool.and_eq_true, Bool.or_eq_true, Bool.and_eq_false_iff, Bool.or_eq_false_iff] at hs0
  refine RL.p T ?_
  refine RL.p T ?_
  exact hj
 ·repeat first | exact Mx.refl | exact Mx.mix | refine Mx.put rfl ?_ | refine Mx.upd rfl ?_ | refine Mx.updl rfl ?_ | refine Mx.fin rfl ?_ | refine Mx.inner rfl ?_ | refine Mx.none ?_
 refine RL.and ?_
 refine RL.p T ?_
 refine RL.nil _ _ _ _ ?_
 refine hK2 _ _ _ ?_
 refine SW.ret ?_
 refine retQ.rr (H) ?_
 clear hK2 K2 hK1 K1 hK0 K0
 refine ⟨boolE ?_, rfl⟩
 unfold ofR
 rw [← mask_eq, ← kbit_eq k0 k1 j0 j1]
theorem qfits {w0 : World} {H : List Chunk} (q : Rul) (hq : RuOk q) (f : Frm) (sa : Option Addr) (n c : Nat) (hR : Rd w0 H sa n c 1 (f.data.map (.int .u8))) (hn : n = f.data.length) (hm : n ≤ 140737488351232) (hf : FrOk f) : SC Try.prog w0 17 #[RuA q, FA f sa n c] H (fun v H' => v = .bool (fitsR q f) ∧ H' = H) := by
 refine SC.enter Try.func17 rfl (Nat.le_of_ble_eq_true rfl) ?_
 refine SW.seq_k fun K0 hK0 => ?_
 refine SW.region _ _ _ _ ?_
 refine RL.s ?_
 refine NV.box rfl (by exact (rfl : _ = [_, _, _, _, _, _, _, _, _, _])) ?_
 intro b2_0
 refine RL.s ?_
 refine NV.box rfl (by exact (rfl : _ = [_, _, _, _, _, _, _, _, _, _, _])) ?_
 intro b3_1
 refine RL.p T ?_
 refine RL.nil _ _ _ _ ?_
 refine hK0 _ _ _ ?_
 refine SW.seq_k fun K1 hK1 => ?_
 refine SW.region _ _ _ _ ?_
 refine RL.lvN T rfl rfl rfl rfl rfl (by repeat first | exact At.head _ _ | assumption | exact At.put (by assumption) _ | apply At.tail | apply At.app) (by exact (rfl : _ = [_, _, _, _, _, _, _, _, _, _])) ?_
 refine RL.c fun28 (fun hs => may q) ?_
 rintro _ _ ⟨rfl, e⟩; obtain rfl := e.symm
 refine RL.p T ?_
 refine RL.join (fr1 := ?_) 3 7 true [8, 9, 10] (fun hs0 hj => ?_) ?_ ?_
 rotate_left
 ·have hs0j := hs0
  try simp only [decide_eq_true_eq, Bool.not_eq_true', decide_eq_false_iff_not, Bool.not_eq_false', Int.not_lt, Int.not_le, Int.toNat_natCast, Bool.and_eq_true, Bool.or_eq_true, Bool.and_eq_false_iff, Bool.or_eq_false_iff] at hs0
  refine RL.lvN T rfl rfl rfl rfl rfl (by repeat first | exact At.head _ _ | assumption | exact At.put (by assumption) _ | apply At.tail | apply At.app) (by exact (rfl : _ = [_, _, _, _, _, _, _, _, _, _, _])) ?_
  refine RL.c fun10 (fun hs => fcheck f sa n c hR.cons.cons hn hm hf) ?_
  rintro _ _ ⟨rfl, e⟩; obtain rfl := e.symm
  refine RL.p T ?_
  exact hj
 ·repeat first | exact Mx.refl | exact Mx.mix | refine Mx.put rfl ?_ | refine Mx.upd rfl ?_ | refine Mx.updl rfl ?_ | refine Mx.fin rfl ?_ | refine Mx.inner rfl ?_ | refine Mx.none ?_
 refine RL.and ?_
 refine RL.p T ?_
 refine RL.join (fr1 := ?_) 3 12 true [13, 14, 15] (fun hs1 hj => ?_) ?_ ?_
 rotate_left
 ·have hs1j := hs1
  try simp only [decide_eq_true_eq, Bool.not_eq_true', decide_eq_false_iff_not, Bool.not_eq_false', Int.not_lt, Int.not_le, Int.toNat_natCast, Bool.and_eq_true, Bool.or_eq_true, Bool.and_eq_false_iff, Bool.or_eq_false_iff] at hs1
  refine RL.lvN T rfl rfl rfl rfl rfl (by repeat first | exact At.head _ _ | assumption | exact At.put (by assumption) _ | apply At.tail | apply At.app) (by exact (rfl : _ = [_, _, _, _, _, _, _, _, _, _])) ?_
  refine RL.lvN T rfl rfl rfl rfl rfl (by repeat first | exact At.head _ _ | assumption | exact At.put (by assumption) _ | apply At.tail | apply At.app) (by exact (rfl : _ = [_, _, _, _, _, _, _, _, _, _, _])) ?_
  refine RL.c fun30 (fun hs => qof q hq f sa n c hR.cons.cons hn hm hf (by have := may_rng (q := q) (by simp_all); omega) (by have := may_rng (q := q) (by simp_all); omega) (by have := chk_kind (f := f) (by simp_all); omega) (by have := chk_kind (f := f) (by simp_all); omega)) ?_
  rintro _ _ ⟨rfl, e⟩; obtain rfl := e.symm
  exact hj
 ·repeat first | exact Mx.refl | exact Mx.mix | refine Mx.put rfl ?_ | refine Mx.upd rfl ?_ | refine Mx.updl rfl ?_ | refine Mx.fin rfl ?_ | refine Mx.inner rfl ?_ | refine Mx.none ?_
 refine RL.and ?_
 refine RL.p T ?_
 refine RL.nil _ _ _ _ ?_
 refine hK1 _ _ _ ?_
 refine SW.ret ?_
 refine retQ.rr (H) ?_
 clear hK1 K1 hK0 K0
 refine ⟨boolE ?_, rfl⟩
 unfold fitsR
 rw [Bool.and_assoc]
theorem rqfits {w0 : World} {H : List Chunk} (q : Rul) (hq : RuOk q) (f : Frm) (sa : Option Addr) (n c : Nat) (hR : Rd w0 H sa n c 1 (f.data.map (.int .u8))) (hn : n = f.data.length) (hm : n ≤ 140737488351232) (hf : FrOk f) : SC Try.prog w0 18 #[RuA q, FA f sa n c] H (fun v H' => v = .bool (fitsR q f) ∧ H' = H) := by
 refine SC.enter Try.func18 rfl (Nat.le_of_ble_eq_true rfl) ?_
 refine SW.seq_k fun K0 hK0 => ?_
 refine SW.region _ _ _ _ ?_
 refine RL.s ?_
 refine NV.box rfl (by exact (rfl : _ = [_, _, _, _, _, _, _, _, _, _])) ?_
 intro b2_0
 refine RL.s ?_
 refine NV.box rfl (by exact (rfl : _ = [_, _, _, _, _, _, _, _, _, _, _])) ?_
 intro b3_1
 refine RL.p T ?_
 refine RL.nil _ _ _ _ ?_
 refine hK0 _ _ _ ?_
 refine SW.seq_k fun K1 hK1 => ?_
 refine SW.seq_k fun K2 hK2 => ?_
 refine SW.region _ _ _ _ ?_
 refine RL.p T ?_
 refine RL.lv1 T ?_
 refine RL.p T ?_
 refine RL.p T ?_
 refine RL.join (fr1 := ?_) 3 9 false [10, 11, 12] (fun hs0 hj => ?_) ?_ ?_
 rotate_left
 ·have hs0j := hs0
  try simp only [decide_eq_true_eq, Bool.not_eq_true', decide_eq_false_iff_not, Bool.not_eq_false', Int.not_lt, Int.not_le, Int.toNat_natCast, Bool.and_eq_true, Bool.or_eq_true, Bool.and_eq_false_iff, Bool.or_eq_false_iff] at hs0
  refine RL.p T ?_
  refine RL.lv1 T ?_
  refine RL.p T ?_
  exact hj
 ·repeat first | exact Mx.refl | exact Mx.mix | refine Mx.put rfl ?_ | refine Mx.upd rfl ?_ | refine Mx.updl rfl ?_ | refine Mx.fin rfl ?_ | refine Mx.inner rfl ?_ | refine Mx.none ?_
 refine RL.or ?_
 refine RL.p T ?_
 refine RL.join (fr1 := ?_) 3 14 false [15, 16, 17] (fun hs1 hj => ?_) ?_ ?_
 rotate_left
 ·have hs1j := hs1
  try simp only [decide_eq_true_eq, Bool.not_eq_true', decide_eq_false_iff_not, Bool.not_eq_false', Int.not_lt, Int.not_le, Int.toNat_natCast, Bool.and_eq_true, Bool.or_eq_true, Bool.and_eq_false_iff, Bool.or_eq_false_iff] at hs1
  refine RL.lvN T rfl rfl rfl rfl rfl (by repeat first | exact At.head _ _ | assumption | exact At.put (by assumption) _ | apply At.tail | apply At.app) (by exact (rfl : _ = [_, _, _, _, _, _, _, _, _, _, _])) ?_
  refine RL.c fun31 (fun hs => rfcheck f sa n c hR.cons.cons hn hm hf) ?_
  rintro _ _ ⟨rfl, e⟩; obtain rfl := e.symm
  refine RL.p T ?_
  exact hj
 ·repeat first | exact Mx.refl | exact Mx.mix | refine Mx.put rfl ?_ | refine Mx.upd rfl ?_ | refine Mx.updl rfl ?_ | refine Mx.fin rfl ?_ | refine Mx.inner rfl ?_ | refine Mx.none ?_
 refine RL.or ?_
 refine RL.nil _ _ _ _ ?_
 refine hK2 _ _ _ ?_
 refine SW.cs (fun hc0 => ?_) (fun hc0 => ?_)
 ·skip
  first
   | (exfalso; first | omega | contradiction | (simp at hc0; done))
   | (
    refine SW.seq_k fun K3 hK3 => ?_
    refine SW.region _ _ _ _ ?_
    refine RL.p T ?_
    refine RL.nil _ _ _ _ ?_
    refine hK3 _ _ _ ?_
    refine SW.ret ?_
    refine retQ.rr (H) ?_
    clear hK3 K3 hK2 K2 hK1 K1 hK0 K0
    refine ⟨boolE ?_, rfl⟩
    first
      | (rw [fits_may (by omega)]; done)
      | (rw [fits_chk (by omega)]; done)
      | (rcases hc0 with h | h
         · rw [fits_may (by omega)]
         · rw [fits_chk h])
      | (rw [fits_of (by omega) (by omega) (by omega)]; unfold ofR maskR; (first | rw [kb3 (j := f.kind) (by omega)] | rw [kb2 (j := f.kind) (by omega)] | rw [kb1 (j := f.kind) (by omega) (by omega)]); simp only [Bool.and_assoc])
    )
 ·skip
  first
   | (exfalso; first | omega | contradiction | (simp at hc0; done))
   | (
    refine SW.skip ?_
    refine hK1 _ _ _ ?_
    refine SW.seq_k fun K4 hK4 => ?_
    refine SW.region _ _ _ _ ?_
    refine RL.p T ?_
    refine RL.lv1 T ?_
    first | refine RL.q (QV.remP rfl rfl rfl (by omega) (by omega)) ?_ | refine RL.q (QV.rem rfl rfl rfl (by omega) rfl) ?_
    refine RL.p T ?_
    refine RL.nil _ _ _ _ ?_
    refine hK4 _ _ _ ?_
    refine SW.seq_k fun K5 hK5 => ?_
    refine SW.seq_k fun K6 hK6 => ?_
    refine SW.region _ _ _ _ ?_
    refine RL.p T ?_
    refine RL.lv1 T ?_
    refine RL.p T ?_
    refine RL.nil _ _ _ _ ?_
    refine hK6 _ _ _ ?_
    refine SW.cs (fun hc1 => ?_) (fun hc1 => ?_)
    ·skip
     first
      | (exfalso; first | omega | contradiction | (simp at hc0; done))
      | (
       refine SW.region _ _ _ _ ?_
       refine RL.p T ?_
       refine RL.lv1 T ?_
       first | refine RL.q (QV.quoP rfl rfl rfl (by omega) (by omega) (by simp only [hiK]; omega)) ?_ | refine RL.q (QV.quo rfl rfl rfl (by omega) rfl) ?_
       first | refine RL.q (QV.remP rfl rfl rfl (by omega) (by omega)) ?_ | refine RL.q (QV.rem rfl rfl rfl (by omega) rfl) ?_
       refine RL.p T ?_
       refine RL.nil _ _ _ _ ?_
       refine hK5 _ _ _ ?_
       refine SW.seq_k fun K7 hK7 => ?_
       refine SW.seq_k fun K8 hK8 => ?_
       refine SW.region _ _ _ _ ?_
       refine RL.p T ?_
       refine RL.lv1 T ?_
       refine RL.p T ?_
       refine RL.nil _ _ _ _ ?_
       refine hK8 _ _ _ ?_
       refine SW.cs (fun hc2 => ?_) (fun hc2 => ?_)
       ·skip
        first
         | (exfalso; first | omega | contradiction | (simp at hc0; done))
         | (
          refine SW.region _ _ _ _ ?_
          refine RL.p T ?_
          refine RL.lv1 T ?_
          first | refine RL.q (QV.quoP rfl rfl rfl (by omega) (by omega) (by simp only [hiK]; omega)) ?_ | refine RL.q (QV.quo rfl rfl rfl (by omega) rfl) ?_
          refine RL.p T ?_
          refine RL.nil _ _ _ _ ?_
          refine hK7 _ _ _ ?_
          refine SW.seq_k fun K9 hK9 => ?_
          refine SW.region _ _ _ _ ?_
          refine RL.p T ?_
          refine RL.p T ?_
          refine RL.p T ?_
          refine RL.join (fr1 := ?_) 11 37 true [38, 39, 40, 41, 42, 43, 44, 45, 46, 47, 48] (fun hs2 hj => ?_) ?_ ?_
          rotate_left
          ·have hs2j := hs2
           try simp only [decide_eq_true_eq, Bool.not_eq_true', decide_eq_false_iff_not, Bool.not_eq_false', Int.not_lt, Int.not_le, Int.toNat_natCast, Bool.and_eq_true, Bool.or_eq_true, Bool.and_eq_false_iff, Bool.or_eq_false_iff] at hs2
           refine RL.p T ?_
           refine RL.lv1 T ?_
           refine RL.p T ?_
           refine RL.lv1 T ?_
           refine RL.p T ?_
           refine RL.p T ?_
           refine RL.lv1 T ?_
           refine RL.p T ?_
           refine RL.lv1 T ?_
           refine RL.p T ?_
           refine RL.p T ?_
           exact hj
          ·repeat first | exact Mx.refl | exact Mx.mix | refine Mx.put rfl ?_ | refine Mx.upd rfl ?_ | refine Mx.updl rfl ?_ | refine Mx.fin rfl ?_ | refine Mx.inner rfl ?_ | refine Mx.none ?_
          refine RL.and ?_
          refine RL.p T ?_
          refine RL.join (fr1 := ?_) 11 50 true [51, 52, 53, 54, 55, 56, 57, 58, 59, 60, 61] (fun hs3 hj => ?_) ?_ ?_
          rotate_left
          ·have hs3j := hs3
           try simp only [decide_eq_true_eq, Bool.not_eq_true', decide_eq_false_iff_not, Bool.not_eq_false', Int.not_lt, Int.not_le, Int.toNat_natCast, Bool.and_eq_true, Bool.or_eq_true, Bool.and_eq_false_iff, Bool.or_eq_false_iff] at hs3
           refine RL.p T ?_
           refine RL.lv1 T ?_
           refine RL.p T ?_
           refine RL.lv1 T ?_
           refine RL.p T ?_
           refine RL.p T ?_
           refine RL.lv1 T ?_
           refine RL.p T ?_
           refine RL.lv1 T ?_
           refine RL.p T ?_
           refine RL.p T ?_
           exact hj
          ·repeat first | exact Mx.refl | exact Mx.mix | refine Mx.put rfl ?_ | refine Mx.upd rfl ?_ | refine Mx.updl rfl ?_ | refine Mx.fin rfl ?_ | refine Mx.inner rfl ?_ | refine Mx.none ?_
          refine RL.and ?_
          refine RL.p T ?_
          refine RL.join (fr1 := ?_) 11 63 true [64, 65, 66, 67, 68, 69, 70, 71, 72, 73, 74] (fun hs4 hj => ?_) ?_ ?_
          rotate_left
          ·have hs4j := hs4
           try simp only [decide_eq_true_eq, Bool.not_eq_true', decide_eq_false_iff_not, Bool.not_eq_false', Int.not_lt, Int.not_le, Int.toNat_natCast, Bool.and_eq_true, Bool.or_eq_true, Bool.and_eq_false_iff, Bool.or_eq_false_iff] at hs4
           refine RL.p T ?_
           refine RL.lv1 T ?_
           refine RL.p T ?_
           refine RL.lv1 T ?_
           refine RL.p T ?_
           refine RL.p T ?_
           refine RL.lv1 T ?_
           refine RL.p T ?_
           refine RL.lv1 T ?_
           refine RL.p T ?_
           refine RL.p T ?_
           exact hj
          ·repeat first | exact Mx.refl | exact Mx.mix | refine Mx.put rfl ?_ | refine Mx.upd rfl ?_ | refine Mx.updl rfl ?_ | refine Mx.fin rfl ?_ | refine Mx.inner rfl ?_ | refine Mx.none ?_
          refine RL.and ?_
          refine RL.p T ?_
          refine RL.join (fr1 := ?_) 11 76 true [77, 78, 79, 80, 81, 82, 83, 84, 85, 86, 87] (fun hs5 hj => ?_) ?_ ?_
          rotate_left
          ·have hs5j := hs5
           try simp only [decide_eq_true_eq, Bool.not_eq_true', decide_eq_false_iff_not, Bool.not_eq_false', Int.not_lt, Int.not_le, Int.toNat_natCast, Bool.and_eq_true, Bool.or_eq_true, Bool.and_eq_false_iff, Bool.or_eq_false_iff] at hs5
           refine RL.p T ?_
           refine RL.lv1 T ?_
           refine RL.p T ?_
           refine RL.lv1 T ?_
           refine RL.p T ?_
           refine RL.p T ?_
           refine RL.lv1 T ?_
           refine RL.p T ?_
           refine RL.lv1 T ?_
           refine RL.p T ?_
           refine RL.p T ?_
           exact hj
          ·repeat first | exact Mx.refl | exact Mx.mix | refine Mx.put rfl ?_ | refine Mx.upd rfl ?_ | refine Mx.updl rfl ?_ | refine Mx.fin rfl ?_ | refine Mx.inner rfl ?_ | refine Mx.none ?_
          refine RL.and ?_
          refine RL.p T ?_
          refine RL.nil _ _ _ _ ?_
          refine hK9 _ _ _ ?_
          refine SW.ret ?_
          refine retQ.rr (H) ?_
          clear hK9 K9 hK8 K8 hK7 K7 hK6 K6 hK5 K5 hK4 K4 hK2 K2 hK1 K1 hK0 K0
          refine ⟨boolE ?_, rfl⟩
          first
            | (rw [fits_may (by omega)]; done)
            | (rw [fits_chk (by omega)]; done)
            | (rcases hc0 with h | h
               · rw [fits_may (by omega)]
               · rw [fits_chk h])
            | (rw [fits_of (by omega) (by omega) (by omega)]; unfold ofR maskR; (first | rw [kb3 (j := f.kind) (by omega)] | rw [kb2 (j := f.kind) (by omega)] | rw [kb1 (j := f.kind) (by omega) (by omega)]); simp only [Bool.and_assoc])
          )
       ·skip
        first
         | (exfalso; first | omega | contradiction | (simp at hc0; done))
         | (
          refine SW.skip ?_
          refine hK7 _ _ _ ?_
          refine SW.seq_k fun K10 hK10 => ?_
          refine SW.region _ _ _ _ ?_
          refine RL.p T ?_
          refine RL.p T ?_
          refine RL.p T ?_
          refine RL.join (fr1 := ?_) 11 37 true [38, 39, 40, 41, 42, 43, 44, 45, 46, 47, 48] (fun hs6 hj => ?_) ?_ ?_
          rotate_left
          ·have hs6j := hs6
           try simp only [decide_eq_true_eq, Bool.not_eq_true', decide_eq_false_iff_not, Bool.not_eq_false', Int.not_lt, Int.not_le, Int.toNat_natCast, Bool.and_eq_true, Bool.or_eq_true, Bool.and_eq_false_iff, Bool.or_eq_false_iff] at hs6
           refine RL.p T ?_
           refine RL.lv1 T ?_
           refine RL.p T ?_
           refine RL.lv1 T ?_
           refine RL.p T ?_
           refine RL.p T ?_
           refine RL.lv1 T ?_
           refine RL.p T ?_
           refine RL.lv1 T ?_
           refine RL.p T ?_
           refine RL.p T ?_
           exact hj
          ·repeat first | exact Mx.refl | exact Mx.mix | refine Mx.put rfl ?_ | refine Mx.upd rfl ?_ | refine Mx.updl rfl ?_ | refine Mx.fin rfl ?_ | refine Mx.inner rfl ?_ | refine Mx.none ?_
          refine RL.and ?_
          refine RL.p T ?_
          refine RL.join (fr1 := ?_) 11 50 true [51, 52, 53, 54, 55, 56, 57, 58, 59, 60, 61] (fun hs7 hj => ?_) ?_ ?_
          rotate_left
          ·have hs7j := hs7
           try simp only [decide_eq_true_eq, Bool.not_eq_true', decide_eq_false_iff_not, Bool.not_eq_false', Int.not_lt, Int.not_le, Int.toNat_natCast, Bool.and_eq_true, Bool.or_eq_true, Bool.and_eq_false_iff, Bool.or_eq_false_iff] at hs7
           refine RL.p T ?_
           refine RL.lv1 T ?_
           refine RL.p T ?_
           refine RL.lv1 T ?_
           refine RL.p T ?_
           refine RL.p T ?_
           refine RL.lv1 T ?_
           refine RL.p T ?_
           refine RL.lv1 T ?_
           refine RL.p T ?_
           refine RL.p T ?_
           exact hj
          ·repeat first | exact Mx.refl | exact Mx.mix | refine Mx.put rfl ?_ | refine Mx.upd rfl ?_ | refine Mx.updl rfl ?_ | refine Mx.fin rfl ?_ | refine Mx.inner rfl ?_ | refine Mx.none ?_
          refine RL.and ?_
          refine RL.p T ?_
          refine RL.join (fr1 := ?_) 11 63 true [64, 65, 66, 67, 68, 69, 70, 71, 72, 73, 74] (fun hs8 hj => ?_) ?_ ?_
          rotate_left
          ·have hs8j := hs8
           try simp only [decide_eq_true_eq, Bool.not_eq_true', decide_eq_false_iff_not, Bool.not_eq_false', Int.not_lt, Int.not_le, Int.toNat_natCast, Bool.and_eq_true, Bool.or_eq_true, Bool.and_eq_false_iff, Bool.or_eq_false_iff] at hs8
           refine RL.p T ?_
           refine RL.lv1 T ?_
           refine RL.p T ?_
           refine RL.lv1 T ?_
           refine RL.p T ?_
           refine RL.p T ?_
           refine RL.lv1 T ?_
           refine RL.p T ?_
           refine RL.lv1 T ?_
           refine RL.p T ?_
           refine RL.p T ?_
           exact hj
          ·repeat first | exact Mx.refl | exact Mx.mix | refine Mx.put rfl ?_ | refine Mx.upd rfl ?_ | refine Mx.updl rfl ?_ | refine Mx.fin rfl ?_ | refine Mx.inner rfl ?_ | refine Mx.none ?_
          refine RL.and ?_
          refine RL.p T ?_
          refine RL.join (fr1 := ?_) 11 76 true [77, 78, 79, 80, 81, 82, 83, 84, 85, 86, 87] (fun hs9 hj => ?_) ?_ ?_
          rotate_left
          ·have hs9j := hs9
           try simp only [decide_eq_true_eq, Bool.not_eq_true', decide_eq_false_iff_not, Bool.not_eq_false', Int.not_lt, Int.not_le, Int.toNat_natCast, Bool.and_eq_true, Bool.or_eq_true, Bool.and_eq_false_iff, Bool.or_eq_false_iff] at hs9
           refine RL.p T ?_
           refine RL.lv1 T ?_
           refine RL.p T ?_
           refine RL.lv1 T ?_
           refine RL.p T ?_
           refine RL.p T ?_
           refine RL.lv1 T ?_
           refine RL.p T ?_
           refine RL.lv1 T ?_
           refine RL.p T ?_
           refine RL.p T ?_
           exact hj
          ·repeat first | exact Mx.refl | exact Mx.mix | refine Mx.put rfl ?_ | refine Mx.upd rfl ?_ | refine Mx.updl rfl ?_ | refine Mx.fin rfl ?_ | refine Mx.inner rfl ?_ | refine Mx.none ?_
          refine RL.and ?_
          refine RL.p T ?_
          refine RL.nil _ _ _ _ ?_
          refine hK10 _ _ _ ?_
          refine SW.ret ?_
          refine retQ.rr (H) ?_
          clear hK10 K10 hK8 K8 hK7 K7 hK6 K6 hK5 K5 hK4 K4 hK2 K2 hK1 K1 hK0 K0
          refine ⟨boolE ?_, rfl⟩
          first
            | (rw [fits_may (by omega)]; done)
            | (rw [fits_chk (by omega)]; done)
            | (rcases hc0 with h | h
               · rw [fits_may (by omega)]
               · rw [fits_chk h])
            | (rw [fits_of (by omega) (by omega) (by omega)]; unfold ofR maskR; (first | rw [kb3 (j := f.kind) (by omega)] | rw [kb2 (j := f.kind) (by omega)] | rw [kb1 (j := f.kind) (by omega) (by omega)]); simp only [Bool.and_assoc])
          )
       )
    ·skip
     first
      | (exfalso; first | omega | contradiction | (simp at hc0; done))
      | (
       refine SW.skip ?_
       refine hK5 _ _ _ ?_
       refine SW.seq_k fun K11 hK11 => ?_
       refine SW.seq_k fun K12 hK12 => ?_
       refine SW.region _ _ _ _ ?_
       refine RL.p T ?_
       refine RL.lv1 T ?_
       refine RL.p T ?_
       refine RL.nil _ _ _ _ ?_
       refine hK12 _ _ _ ?_
       refine SW.cs (fun hc3 => ?_) (fun hc3 => ?_)
       ·skip
        first
         | (exfalso; first | omega | contradiction | (simp at hc0; done))
         | (
          refine SW.region _ _ _ _ ?_
          refine RL.p T ?_
          refine RL.lv1 T ?_
          first | refine RL.q (QV.quoP rfl rfl rfl (by omega) (by omega) (by simp only [hiK]; omega)) ?_ | refine RL.q (QV.quo rfl rfl rfl (by omega) rfl) ?_
          refine RL.p T ?_
          refine RL.nil _ _ _ _ ?_
          refine hK11 _ _ _ ?_
          refine SW.seq_k fun K13 hK13 => ?_
          refine SW.region _ _ _ _ ?_
          refine RL.p T ?_
          refine RL.p T ?_
          refine RL.p T ?_
          refine RL.join (fr1 := ?_) 11 37 true [38, 39, 40, 41, 42, 43, 44, 45, 46, 47, 48] (fun hs10 hj => ?_) ?_ ?_
          rotate_left
          ·have hs10j := hs10
           try simp only [decide_eq_true_eq, Bool.not_eq_true', decide_eq_false_iff_not, Bool.not_eq_false', Int.not_lt, Int.not_le, Int.toNat_natCast, Bool.and_eq_true, Bool.or_eq_true, Bool.and_eq_false_iff, Bool.or_eq_false_iff] at hs10
           refine RL.p T ?_
           refine RL.lv1 T ?_
           refine RL.p T ?_
           refine RL.lv1 T ?_
           refine RL.p T ?_
           refine RL.p T ?_
           refine RL.lv1 T ?_
           refine RL.p T ?_
           refine RL.lv1 T ?_
           refine RL.p T ?_
           refine RL.p T ?_
           exact hj
          ·repeat first | exact Mx.refl | exact Mx.mix | refine Mx.put rfl ?_ | refine Mx.upd rfl ?_ | refine Mx.updl rfl ?_ | refine Mx.fin rfl ?_ | refine Mx.inner rfl ?_ | refine Mx.none ?_
          refine RL.and ?_
          refine RL.p T ?_
          refine RL.join (fr1 := ?_) 11 50 true [51, 52, 53, 54, 55, 56, 57, 58, 59, 60, 61] (fun hs11 hj => ?_) ?_ ?_
          rotate_left
          ·have hs11j := hs11
           try simp only [decide_eq_true_eq, Bool.not_eq_true', decide_eq_false_iff_not, Bool.not_eq_false', Int.not_lt, Int.not_le, Int.toNat_natCast, Bool.and_eq_true, Bool.or_eq_true, Bool.and_eq_false_iff, Bool.or_eq_false_iff] at hs11
           refine RL.p T ?_
           refine RL.lv1 T ?_
           refine RL.p T ?_
           refine RL.lv1 T ?_
           refine RL.p T ?_
           refine RL.p T ?_
           refine RL.lv1 T ?_
           refine RL.p T ?_
           refine RL.lv1 T ?_
           refine RL.p T ?_
           refine RL.p T ?_
           exact hj
          ·repeat first | exact Mx.refl | exact Mx.mix | refine Mx.put rfl ?_ | refine Mx.upd rfl ?_ | refine Mx.updl rfl ?_ | refine Mx.fin rfl ?_ | refine Mx.inner rfl ?_ | refine Mx.none ?_
          refine RL.and ?_
          refine RL.p T ?_
          refine RL.join (fr1 := ?_) 11 63 true [64, 65, 66, 67, 68, 69, 70, 71, 72, 73, 74] (fun hs12 hj => ?_) ?_ ?_
          rotate_left
          ·have hs12j := hs12
           try simp only [decide_eq_true_eq, Bool.not_eq_true', decide_eq_false_iff_not, Bool.not_eq_false', Int.not_lt, Int.not_le, Int.toNat_natCast, Bool.and_eq_true, Bool.or_eq_true, Bool.and_eq_false_iff, Bool.or_eq_false_iff] at hs12
           refine RL.p T ?_
           refine RL.lv1 T ?_
           refine RL.p T ?_
           refine RL.lv1 T ?_
           refine RL.p T ?_
           refine RL.p T ?_
           refine RL.lv1 T ?_
           refine RL.p T ?_
           refine RL.lv1 T ?_
           refine RL.p T ?_
           refine RL.p T ?_
           exact hj
          ·repeat first | exact Mx.refl | exact Mx.mix | refine Mx.put rfl ?_ | refine Mx.upd rfl ?_ | refine Mx.updl rfl ?_ | refine Mx.fin rfl ?_ | refine Mx.inner rfl ?_ | refine Mx.none ?_
          refine RL.and ?_
          refine RL.p T ?_
          refine RL.join (fr1 := ?_) 11 76 true [77, 78, 79, 80, 81, 82, 83, 84, 85, 86, 87] (fun hs13 hj => ?_) ?_ ?_
          rotate_left
          ·have hs13j := hs13
           try simp only [decide_eq_true_eq, Bool.not_eq_true', decide_eq_false_iff_not, Bool.not_eq_false', Int.not_lt, Int.not_le, Int.toNat_natCast, Bool.and_eq_true, Bool.or_eq_true, Bool.and_eq_false_iff, Bool.or_eq_false_iff] at hs13
           refine RL.p T ?_
           refine RL.lv1 T ?_
           refine RL.p T ?_
           refine RL.lv1 T ?_
           refine RL.p T ?_
           refine RL.p T ?_
           refine RL.lv1 T ?_
           refine RL.p T ?_
           refine RL.lv1 T ?_
           refine RL.p T ?_
           refine RL.p T ?_
           exact hj
          ·repeat first | exact Mx.refl | exact Mx.mix | refine Mx.put rfl ?_ | refine Mx.upd rfl ?_ | refine Mx.updl rfl ?_ | refine Mx.fin rfl ?_ | refine Mx.inner rfl ?_ | refine Mx.none ?_
          refine RL.and ?_
          refine RL.p T ?_
          refine RL.nil _ _ _ _ ?_
          refine hK13 _ _ _ ?_
          refine SW.ret ?_
          refine retQ.rr (H) ?_
          clear hK13 K13 hK12 K12 hK11 K11 hK6 K6 hK5 K5 hK4 K4 hK2 K2 hK1 K1 hK0 K0
          refine ⟨boolE ?_, rfl⟩
          first
            | (rw [fits_may (by omega)]; done)
            | (rw [fits_chk (by omega)]; done)
            | (rcases hc0 with h | h
               · rw [fits_may (by omega)]
               · rw [fits_chk h])
            | (rw [fits_of (by omega) (by omega) (by omega)]; unfold ofR maskR; (first | rw [kb3 (j := f.kind) (by omega)] | rw [kb2 (j := f.kind) (by omega)] | rw [kb1 (j := f.kind) (by omega) (by omega)]); simp only [Bool.and_assoc])
          )
       ·skip
        first
         | (exfalso; first | omega | contradiction | (simp at hc0; done))
         | (
          refine SW.skip ?_
          refine hK11 _ _ _ ?_
          refine SW.seq_k fun K14 hK14 => ?_
          refine SW.region _ _ _ _ ?_
          refine RL.p T ?_
          refine RL.p T ?_
          refine RL.p T ?_
          refine RL.join (fr1 := ?_) 11 37 true [38, 39, 40, 41, 42, 43, 44, 45, 46, 47, 48] (fun hs14 hj => ?_) ?_ ?_
          rotate_left
          ·have hs14j := hs14
           try simp only [decide_eq_true_eq, Bool.not_eq_true', decide_eq_false_iff_not, Bool.not_eq_false', Int.not_lt, Int.not_le, Int.toNat_natCast, Bool.and_eq_true, Bool.or_eq_true, Bool.and_eq_false_iff, Bool.or_eq_false_iff] at hs14
           refine RL.p T ?_
           refine RL.lv1 T ?_
           refine RL.p T ?_
           refine RL.lv1 T ?_
           refine RL.p T ?_
           refine RL.p T ?_
           refine RL.lv1 T ?_
           refine RL.p T ?_
           refine RL.lv1 T ?_
           refine RL.p T ?_
           refine RL.p T ?_
           exact hj
          ·repeat first | exact Mx.refl | exact Mx.mix | refine Mx.put rfl ?_ | refine Mx.upd rfl ?_ | refine Mx.updl rfl ?_ | refine Mx.fin rfl ?_ | refine Mx.inner rfl ?_ | refine Mx.none ?_
          refine RL.and ?_
          refine RL.p T ?_
          refine RL.join (fr1 := ?_) 11 50 true [51, 52, 53, 54, 55, 56, 57, 58, 59, 60, 61] (fun hs15 hj => ?_) ?_ ?_
          rotate_left
          ·have hs15j := hs15
           try simp only [decide_eq_true_eq, Bool.not_eq_true', decide_eq_false_iff_not, Bool.not_eq_false', Int.not_lt, Int.not_le, Int.toNat_natCast, Bool.and_eq_true, Bool.or_eq_true, Bool.and_eq_false_iff, Bool.or_eq_false_iff] at hs15
           refine RL.p T ?_
           refine RL.lv1 T ?_
           refine RL.p T ?_
           refine RL.lv1 T ?_
           refine RL.p T ?_
           refine RL.p T ?_
           refine RL.lv1 T ?_
           refine RL.p T ?_
           refine RL.lv1 T ?_
           refine RL.p T ?_
           refine RL.p T ?_
           exact hj
          ·repeat first | exact Mx.refl | exact Mx.mix | refine Mx.put rfl ?_ | refine Mx.upd rfl ?_ | refine Mx.updl rfl ?_ | refine Mx.fin rfl ?_ | refine Mx.inner rfl ?_ | refine Mx.none ?_
          refine RL.and ?_
          refine RL.p T ?_
          refine RL.join (fr1 := ?_) 11 63 true [64, 65, 66, 67, 68, 69, 70, 71, 72, 73, 74] (fun hs16 hj => ?_) ?_ ?_
          rotate_left
          ·have hs16j := hs16
           try simp only [decide_eq_true_eq, Bool.not_eq_true', decide_eq_false_iff_not, Bool.not_eq_false', Int.not_lt, Int.not_le, Int.toNat_natCast, Bool.and_eq_true, Bool.or_eq_true, Bool.and_eq_false_iff, Bool.or_eq_false_iff] at hs16
           refine RL.p T ?_
           refine RL.lv1 T ?_
           refine RL.p T ?_
           refine RL.lv1 T ?_
           refine RL.p T ?_
           refine RL.p T ?_
           refine RL.lv1 T ?_
           refine RL.p T ?_
           refine RL.lv1 T ?_
           refine RL.p T ?_
           refine RL.p T ?_
           exact hj
          ·repeat first | exact Mx.refl | exact Mx.mix | refine Mx.put rfl ?_ | refine Mx.upd rfl ?_ | refine Mx.updl rfl ?_ | refine Mx.fin rfl ?_ | refine Mx.inner rfl ?_ | refine Mx.none ?_
          refine RL.and ?_
          refine RL.p T ?_
          refine RL.join (fr1 := ?_) 11 76 true [77, 78, 79, 80, 81, 82, 83, 84, 85, 86, 87] (fun hs17 hj => ?_) ?_ ?_
          rotate_left
          ·have hs17j := hs17
           try simp only [decide_eq_true_eq, Bool.not_eq_true', decide_eq_false_iff_not, Bool.not_eq_false', Int.not_lt, Int.not_le, Int.toNat_natCast, Bool.and_eq_true, Bool.or_eq_true, Bool.and_eq_false_iff, Bool.or_eq_false_iff] at hs17
           refine RL.p T ?_
           refine RL.lv1 T ?_
           refine RL.p T ?_
           refine RL.lv1 T ?_
           refine RL.p T ?_
           refine RL.p T ?_
           refine RL.lv1 T ?_
           refine RL.p T ?_
           refine RL.lv1 T ?_
           refine RL.p T ?_
           refine RL.p T ?_
           exact hj
          ·repeat first | exact Mx.refl | exact Mx.mix | refine Mx.put rfl ?_ | refine Mx.upd rfl ?_ | refine Mx.updl rfl ?_ | refine Mx.fin rfl ?_ | refine Mx.inner rfl ?_ | refine Mx.none ?_
          refine RL.and ?_
          refine RL.p T ?_
          refine RL.nil _ _ _ _ ?_
          refine hK14 _ _ _ ?_
          refine SW.ret ?_
          refine retQ.rr (H) ?_
          clear hK14 K14 hK12 K12 hK11 K11 hK6 K6 hK5 K5 hK4 K4 hK2 K2 hK1 K1 hK0 K0
          refine ⟨boolE ?_, rfl⟩
          first
            | (rw [fits_may (by omega)]; done)
            | (rw [fits_chk (by omega)]; done)
            | (rcases hc0 with h | h
               · rw [fits_may (by omega)]
               · rw [fits_chk h])
            | (rw [fits_of (by omega) (by omega) (by omega)]; unfold ofR maskR; (first | rw [kb3 (j := f.kind) (by omega)] | rw [kb2 (j := f.kind) (by omega)] | rw [kb1 (j := f.kind) (by omega) (by omega)]); simp only [Bool.and_assoc])
          )
       )
    )
theorem rbcheck {w0 : World} {H : List Chunk} (rs : List Rul) (sr : Option Addr) (nr cr : Nat) (hB : Rd w0 H sr nr cr 10 (rs.flatMap RuC)) (hnr : nr = rs.length) (hmr : nr ≤ 140737488351232) (hrs : ∀ k, RuOk (rs.getD k default)) (d : Bool) : SC Try.prog w0 19 #[.agg #[.slice sr nr cr, .bool d]] H (fun v H' => v = .int .i64 (chkB rs) ∧ H' = H) := by
 refine SC.enter Try.func19 rfl (Nat.le_of_ble_eq_true rfl) ?_
 refine SW.seq_k fun K0 hK0 => ?_
 refine SW.region _ _ _ _ ?_
 refine RL.s ?_
 refine NV.box rfl (by exact (rfl : _ = [_, _])) ?_
 intro b1_0
 refine RL.p T ?_
 refine RL.nil _ _ _ _ ?_
 refine hK0 _ _ _ ?_
 refine SW.seq_k fun K1 hK1 => ?_
 refine SW.seq_k fun K2 hK2 => ?_
 refine SW.region _ _ _ _ ?_
 refine RL.p T ?_
 refine RL.lv1 T ?_
 refine RL.p T ?_
 refine RL.p T ?_
 refine RL.nil _ _ _ _ ?_
 refine hK2 _ _ _ ?_
 refine SW.cs (fun hc0 => ?_) (fun hc0 => ?_)
 ·skip
  refine SW.seq_k fun K3 hK3 => ?_
  refine SW.region _ _ _ _ ?_
  refine RL.p T ?_
  refine RL.nil _ _ _ _ ?_
  refine hK3 _ _ _ ?_
  refine SW.ret ?_
  refine retQ.rr (H) ?_
  clear hK3 K3 hK2 K2 hK1 K1 hK0 K0
  refine ⟨intE ?_, rfl⟩
  first
    | exact (chkB_bad (.inl (by omega))).symm
    | exact (chkB_bad (.inr (any_hit (k := k) (by omega) (bad_may (by omega))))).symm
    | exact (chkB_ok (by omega) (any_end (k := k) (by omega) hb)).symm
 ·skip
  refine SW.skip ?_
  refine hK1 _ _ _ ?_
  refine SW.seq_k fun K4 hK4 => ?_
  refine SW.seq_k fun K5 hK5 => ?_
  refine SW.region _ _ _ _ ?_
  refine RL.p T ?_
  refine RL.lv1 T ?_
  refine RL.p T ?_
  refine RL.p T ?_
  refine RL.nil _ _ _ _ ?_
  refine hK5 _ _ _ ?_
  refine SW.block ?_
  refine SW.loopM (fun frB mm fr ds HH => ∃ (k : Nat) , mm = nr - k ∧ (k ≤ nr ∧ ((rs.take k).any (fun q => !mayR q) = false)) ∧ FrIs [2, 4, 12, 13, 14, 15, 16, 17, 18, 19, 20, 21, 22, 23, 24] frB fr [(12, .int .i64 k)] ∧ ds = [] ∧ HH = (.var b1_0 24 [.slice sr nr cr, .bool d] :: H)) (n := nr - 0) ?_ ?_
  ·exact ⟨0, rfl, ⟨Nat.zero_le _, rfl⟩, (.cons rfl (.nil (by repeat first | exact Mx.refl | exact Mx.mix | refine Mx.put rfl ?_ | refine Mx.upd rfl ?_ | refine Mx.updl rfl ?_ | refine Mx.fin rfl ?_ | refine Mx.inner rfl ?_ | refine Mx.none ?_))), rfl, rfl⟩
  ·rintro mm fr ds HH ⟨k, rfl, ⟨hk, hb⟩, hFr, rfl, eHH⟩
   obtain rfl := eHH.symm
   obtain ⟨frU, rfl⟩ := hFr.eq
   clear hFr
   refine SW.seq_k fun K6 hK6 => ?_
   refine SW.region _ _ _ _ ?_
   refine RL.p T ?_
   refine RL.nil _ _ _ _ ?_
   refine hK6 _ _ _ ?_
   refine SW.seq_k fun K7 hK7 => ?_
   refine SW.cs (fun hc1 => ?_) (fun hc1 => ?_)
   ·skip
    refine SW.skip ?_
    refine hK7 _ _ _ ?_
    refine SW.seq_k fun K8 hK8 => ?_
    refine SW.block ?_
    refine SW.seq_k fun K9 hK9 => ?_
    refine SW.region _ _ _ _ ?_
    refine RL.ix T ?_
    refine RL.leN T ?_ (hvs := (by exact (rfl : _ = [_, _, _, _, _, _, _, _, _, _])))
    refine RL.s ?_
    refine NV.alloc T rfl rfl rfl (by exact (rfl : _ = [_, _, _, _, _, _, _, _, _, _])) ?_
    intro b4_1
    refine RL.s ?_
    first
      | refine NV.store_var1 T rfl rfl rfl rfl (by conv => lhs; whnf) rfl (by repeat first | exact At.head _ _ | assumption | exact At.put (by assumption) _ | apply At.tail | apply At.app) rfl (by exact (rfl : _ = [_, _, _, _, _, _, _, _, _, _])) ?_
      | refine NV.store_var T rfl rfl rfl (by exact (rfl : _ = [_, _, _, _, _, _, _, _, _, _])) rfl rfl (by repeat first | exact At.head _ _ | assumption | exact At.put (by assumption) _ | apply At.tail | apply At.app) (Nat.le_of_ble_eq_true rfl) (by exact (rfl : _ = [_, _, _, _, _, _, _, _, _, _])) ?_
      | refine NV.store_elem T rfl rfl rfl rfl (by conv => lhs; whnf) rfl (by repeat first | exact At.head _ _ | assumption | exact At.put (by assumption) _ | apply At.tail | apply At.app) (by omega) ?_
    refine RL.nil _ _ _ _ ?_
    refine hK9 _ _ _ ?_
    refine SW.seq_k fun K10 hK10 => ?_
    refine SW.region _ _ _ _ ?_
    refine RL.p T ?_
    refine RL.lv1 T ?_
    refine RL.p T ?_
    refine RL.p T ?_
    refine RL.join (fr1 := ?_) 3 19 false [20, 21, 22] (fun hs0 hj => ?_) ?_ ?_
    rotate_left
    ·have hs0j := hs0
     try simp only [decide_eq_true_eq, Bool.not_eq_true', decide_eq_false_iff_not, Bool.not_eq_false', Int.not_lt, Int.not_le, Int.toNat_natCast, Bool.and_eq_true, Bool.or_eq_true, Bool.and_eq_false_iff, Bool.or_eq_false_iff] at hs0
     refine RL.p T ?_
     refine RL.lv1 T ?_
     refine RL.p T ?_
     exact hj
    ·repeat first | exact Mx.refl | exact Mx.mix | refine Mx.put rfl ?_ | refine Mx.upd rfl ?_ | refine Mx.updl rfl ?_ | refine Mx.fin rfl ?_ | refine Mx.inner rfl ?_ | refine Mx.none ?_
    refine RL.or ?_
    refine RL.drop ?_
    refine RL.nil _ _ _ _ ?_
    refine hK10 _ _ _ ?_
    refine SW.cs (fun hc2 => ?_) (fun hc2 => ?_)
    ·skip
     refine SW.seq_k fun K11 hK11 => ?_
     refine SW.region _ _ _ _ ?_
     refine RL.p T ?_
     refine RL.nil _ _ _ _ ?_
     refine hK11 _ _ _ ?_
     refine SW.ret ?_
     refine retQ.rr (H) ?_
     clear hK11 K11 hK10 K10 hK9 K9 hK8 K8 hK7 K7 hK6 K6 hK5 K5 hK4 K4 hK2 K2 hK1 K1 hK0 K0
     refine ⟨intE ?_, rfl⟩
     first
       | exact (chkB_bad (.inl (by omega))).symm
       | exact (chkB_bad (.inr (any_hit (k := k) (by omega) (bad_may (by omega))))).symm
       | exact (chkB_ok (by omega) (any_end (k := k) (by omega) hb)).symm
    ·skip
     refine SW.skip ?_
     refine hK8 _ _ _ ?_
     refine SW.region _ _ _ _ ?_
     first | refine RL.ar ?_ | refine RL.p T ?_
     refine RL.p T ?_
     refine RL.nil _ _ _ _ ?_
     exact ⟨nr - (k + 1), (by omega), k + 1, (by rfl), ⟨by omega, any_step (by omega) hb (ok_may (by omega))⟩, (.cons rfl (.nil (by repeat first | exact Mx.refl | exact Mx.mix | refine Mx.put rfl ?_ | refine Mx.upd rfl ?_ | refine Mx.updl rfl ?_ | refine Mx.fin rfl ?_ | refine Mx.inner rfl ?_ | refine Mx.none ?_))), rfl, rfl⟩
   ·skip
    refine SW.exit ?_
    refine hK4 _ _ _ ?_
    refine SW.seq_k fun K12 hK12 => ?_
    refine SW.region _ _ _ _ ?_
    refine RL.p T ?_
    refine RL.nil _ _ _ _ ?_
    refine hK12 _ _ _ ?_
    refine SW.ret ?_
    refine retQ.rr (H) ?_
    clear hK12 K12 hK7 K7 hK6 K6 hK5 K5 hK4 K4 hK2 K2 hK1 K1 hK0 K0
    refine ⟨intE ?_, rfl⟩
    first
      | exact (chkB_bad (.inl (by omega))).symm
      | exact (chkB_bad (.inr (any_hit (k := k) (by omega) (bad_may (by omega))))).symm
      | exact (chkB_ok (by omega) (any_end (k := k) (by omega) hb)).symm
theorem bfind {w0 : World} {H : List Chunk} (rs : List Rul) (sr : Option Addr) (nr cr : Nat) (hB : Rd w0 H sr nr cr 10 (rs.flatMap RuC)) (hnr : nr = rs.length) (hmr : nr ≤ 140737488351232) (hrs : ∀ k, RuOk (rs.getD k default)) (d : Bool) (f : Frm) (sa : Option Addr) (n c : Nat) (hR : Rd w0 H sa n c 1 (f.data.map (.int .u8))) (hn : n = f.data.length) (hm : n ≤ 140737488351232) (hf : FrOk f) : SC Try.prog w0 14 #[.agg #[.slice sr nr cr, .bool d], FA f sa n c] H (fun v H' => v = .tuple #[.int .i64 (findB rs f).1, .int .i64 (findB rs f).2] ∧ H' = H) := by
 refine SC.enter Try.func14 rfl (Nat.le_of_ble_eq_true rfl) ?_
 refine SW.seq_k fun K0 hK0 => ?_
 refine SW.region _ _ _ _ ?_
 refine RL.s ?_
 refine NV.box rfl (by exact (rfl : _ = [_, _])) ?_
 intro b2_0
 refine RL.s ?_
 refine NV.box rfl (by exact (rfl : _ = [_, _, _, _, _, _, _, _, _, _, _])) ?_
 intro b3_1
 refine RL.p T ?_
 refine RL.p T ?_
 refine RL.nil _ _ _ _ ?_
 refine hK0 _ _ _ ?_
 refine SW.seq_k fun K1 hK1 => ?_
 refine SW.seq_k fun K2 hK2 => ?_
 refine SW.region _ _ _ _ ?_
 refine RL.lvN T rfl rfl rfl rfl rfl (by repeat first | exact At.head _ _ | assumption | exact At.put (by assumption) _ | apply At.tail | apply At.app) (by exact (rfl : _ = [_, _])) ?_
 refine RL.c fun11 (fun hs => bcheck rs sr nr cr hB.cons.cons hnr hmr hrs d) ?_
 rintro _ _ ⟨rfl, e⟩; obtain rfl := e.symm
 refine RL.p T ?_
 refine RL.p T ?_
 refine RL.join (fr1 := ?_) 3 12 false [13, 14, 15] (fun hs0 hj => ?_) ?_ ?_
 rotate_left
 ·have hs0j := hs0
  try simp only [decide_eq_true_eq, Bool.not_eq_true', decide_eq_false_iff_not, Bool.not_eq_false', Int.not_lt, Int.not_le, Int.toNat_natCast, Bool.and_eq_true, Bool.or_eq_true, Bool.and_eq_false_iff, Bool.or_eq_false_iff] at hs0
  refine RL.lvN T rfl rfl rfl rfl rfl (by repeat first | exact At.head _ _ | assumption | exact At.put (by assumption) _ | apply At.tail | apply At.app) (by exact (rfl : _ = [_, _, _, _, _, _, _, _, _, _, _])) ?_
  refine RL.c fun10 (fun hs => fcheck f sa n c hR.cons.cons hn hm hf) ?_
  rintro _ _ ⟨rfl, e⟩; obtain rfl := e.symm
  refine RL.p T ?_
  exact hj
 ·repeat first | exact Mx.refl | exact Mx.mix | refine Mx.put rfl ?_ | refine Mx.upd rfl ?_ | refine Mx.updl rfl ?_ | refine Mx.fin rfl ?_ | refine Mx.inner rfl ?_ | refine Mx.none ?_
 refine RL.or ?_
 refine RL.nil _ _ _ _ ?_
 refine hK2 _ _ _ ?_
 refine SW.cs (fun hc0 => ?_) (fun hc0 => ?_)
 ·skip
  refine SW.seq_k fun K3 hK3 => ?_
  refine SW.region _ _ _ _ ?_
  refine RL.p T ?_
  refine RL.p T ?_
  refine RL.nil _ _ _ _ ?_
  refine hK3 _ _ _ ?_
  refine SW.ret ?_
  refine retQ.rr (H) ?_
  clear hK3 K3 hK2 K2 hK1 K1 hK0 K0
  refine ⟨?_, rfl⟩
  first
    | (rw [find_bad (rs := rs) (f := f) (by omega)]; rfl)
    | (rw [find_ok (rs := rs) (f := f) (by omega) (by omega), first_hit (k := k) (by omega) hb ((fits_of hmk.1 hmk.2 (by omega)).trans (by assumption))]; rfl)
    | (rw [find_ok (rs := rs) (f := f) (by omega) (by omega), first_none (any_end (k := k) (by omega) hb)]; rfl)
 ·skip
  refine SW.skip ?_
  refine hK1 _ _ _ ?_
  refine SW.seq_k fun K4 hK4 => ?_
  refine SW.seq_k fun K5 hK5 => ?_
  refine SW.region _ _ _ _ ?_
  refine RL.p T ?_
  refine RL.lv1 T ?_
  refine RL.p T ?_
  refine RL.p T ?_
  refine RL.nil _ _ _ _ ?_
  refine hK5 _ _ _ ?_
  refine SW.block ?_
  refine SW.loopM (fun frB mm fr ds HH => ∃ (k : Nat) , mm = nr - k ∧ (k ≤ nr ∧ ((rs.take k).any (fun q => fitsR q f) = false)) ∧ FrIs [4, 5, 6, 7, 8, 20, 21, 22, 23, 24, 25, 26, 27, 28, 29, 30, 31] frB fr [(20, .int .i64 k)] ∧ ds = [] ∧ HH = (.var b3_1 28 (FC f sa n c) :: .var b2_0 35 [.slice sr nr cr, .bool d] :: H)) (n := nr - 0) ?_ ?_
  ·exact ⟨0, rfl, ⟨Nat.zero_le _, rfl⟩, (.cons rfl (.nil (by repeat first | exact Mx.refl | exact Mx.mix | refine Mx.put rfl ?_ | refine Mx.upd rfl ?_ | refine Mx.updl rfl ?_ | refine Mx.fin rfl ?_ | refine Mx.inner rfl ?_ | refine Mx.none ?_))), rfl, rfl⟩
  ·rintro mm fr ds HH ⟨k, rfl, ⟨hk, hb⟩, hFr, rfl, eHH⟩
   obtain rfl := eHH.symm
   obtain ⟨frU, rfl⟩ := hFr.eq
   clear hFr
   have hmk := fun h => chkB_may (rs := rs) (by omega) (k := k) h
   refine SW.seq_k fun K6 hK6 => ?_
   refine SW.region _ _ _ _ ?_
   refine RL.p T ?_
   refine RL.nil _ _ _ _ ?_
   refine hK6 _ _ _ ?_
   refine SW.seq_k fun K7 hK7 => ?_
   refine SW.cs (fun hc1 => ?_) (fun hc1 => ?_)
   ·skip
    refine SW.skip ?_
    refine hK7 _ _ _ ?_
    refine SW.seq_k fun K8 hK8 => ?_
    refine SW.block ?_
    refine SW.seq_k fun K9 hK9 => ?_
    refine SW.region _ _ _ _ ?_
    refine RL.p T ?_
    refine RL.ix T ?_
    refine RL.leN T ?_ (hvs := (by exact (rfl : _ = [_, _, _, _, _, _, _, _, _, _])))
    refine RL.s ?_
    refine NV.alloc T rfl rfl rfl (by exact (rfl : _ = [_, _, _, _, _, _, _, _, _, _])) ?_
    intro b7_2
    refine RL.p T ?_
    refine RL.s ?_
    first
      | refine NV.store_var1 T rfl rfl rfl rfl (by conv => lhs; whnf) rfl (by repeat first | exact At.head _ _ | assumption | exact At.put (by assumption) _ | apply At.tail | apply At.app) rfl (by exact (rfl : _ = [_, _, _, _, _, _, _, _, _, _])) ?_
      | refine NV.store_var T rfl rfl rfl (by exact (rfl : _ = [_, _, _, _, _, _, _, _, _, _])) rfl rfl (by repeat first | exact At.head _ _ | assumption | exact At.put (by assumption) _ | apply At.tail | apply At.app) (Nat.le_of_ble_eq_true rfl) (by exact (rfl : _ = [_, _, _, _, _, _, _, _, _, _])) ?_
      | refine NV.store_elem T rfl rfl rfl rfl (by conv => lhs; whnf) rfl (by repeat first | exact At.head _ _ | assumption | exact At.put (by assumption) _ | apply At.tail | apply At.app) (by omega) ?_
    refine RL.nil _ _ _ _ ?_
    refine hK9 _ _ _ ?_
    refine SW.seq_k fun K10 hK10 => ?_
    replace hmk := hmk (by omega)
    refine SW.region _ _ _ _ ?_
    refine RL.lvN T rfl rfl rfl rfl rfl (by repeat first | exact At.head _ _ | assumption | exact At.put (by assumption) _ | apply At.tail | apply At.app) (by exact (rfl : _ = [_, _, _, _, _, _, _, _, _, _])) ?_
    refine RL.p T ?_
    refine RL.p T ?_
    refine RL.nil _ _ _ _ ?_
    refine hK10 _ _ _ ?_
    refine SW.seq_k fun K11 hK11 => ?_
    refine SW.region _ _ _ _ ?_
    refine RL.p T ?_
    refine RL.lvN T rfl rfl rfl rfl rfl (by repeat first | exact At.head _ _ | assumption | exact At.put (by assumption) _ | apply At.tail | apply At.app) (by exact (rfl : _ = [_, _, _, _, _, _, _, _, _, _, _])) ?_
    refine RL.c fun30 (fun hs => qof (rs.getD k default) (hrs k) f sa n c hR.cons.cons.cons hn hm hf hmk.1 hmk.2 (chk_kind (by omega)).1 (chk_kind (by omega)).2) ?_
    rintro _ _ ⟨rfl, e⟩; obtain rfl := e.symm
    refine RL.drop ?_
    refine RL.nil _ _ _ _ ?_
    refine hK11 _ _ _ ?_
    refine SW.cs (fun hc2 => ?_) (fun hc2 => ?_)
    ·skip
     refine SW.seq_k fun K12 hK12 => ?_
     refine SW.region _ _ _ _ ?_
     refine RL.p T ?_
     refine RL.p T ?_
     refine RL.p T ?_
     refine RL.nil _ _ _ _ ?_
     refine hK12 _ _ _ ?_
     refine SW.ret ?_
     refine retQ.rr (H) ?_
     clear hK12 K12 hK11 K11 hK10 K10 hK9 K9 hK8 K8 hK7 K7 hK6 K6 hK5 K5 hK4 K4 hK2 K2 hK1 K1 hK0 K0
     refine ⟨?_, rfl⟩
     first
       | (rw [find_bad (rs := rs) (f := f) (by omega)]; rfl)
       | (rw [find_ok (rs := rs) (f := f) (by omega) (by omega), first_hit (k := k) (by omega) hb ((fits_of hmk.1 hmk.2 (by omega)).trans (by assumption))]; rfl)
       | (rw [find_ok (rs := rs) (f := f) (by omega) (by omega), first_none (any_end (k := k) (by omega) hb)]; rfl)
    ·skip
     refine SW.skip ?_
     refine hK8 _ _ _ ?_
     refine SW.region _ _ _ _ ?_
     first | refine RL.ar ?_ | refine RL.p T ?_
     refine RL.p T ?_
     refine RL.nil _ _ _ _ ?_
     exact ⟨nr - (k + 1), (by omega), k + 1, (by rfl), ⟨by omega, any_step (by omega) hb ((fits_of hmk.1 hmk.2 (by omega)).trans (by assumption))⟩, (.cons rfl (.nil (by repeat first | exact Mx.refl | exact Mx.mix | refine Mx.put rfl ?_ | refine Mx.upd rfl ?_ | refine Mx.updl rfl ?_ | refine Mx.fin rfl ?_ | refine Mx.inner rfl ?_ | refine Mx.none ?_))), rfl, rfl⟩
   ·skip
    refine SW.exit ?_
    refine hK4 _ _ _ ?_
    refine SW.seq_k fun K13 hK13 => ?_
    refine SW.region _ _ _ _ ?_
    refine RL.p T ?_
    refine RL.p T ?_
    refine RL.nil _ _ _ _ ?_
    refine hK13 _ _ _ ?_
    refine SW.ret ?_
    refine retQ.rr (H) ?_
    clear hK13 K13 hK7 K7 hK6 K6 hK5 K5 hK4 K4 hK2 K2 hK1 K1 hK0 K0
    refine ⟨?_, rfl⟩
    first
      | (rw [find_bad (rs := rs) (f := f) (by omega)]; rfl)
      | (rw [find_ok (rs := rs) (f := f) (by omega) (by omega), first_hit (k := k) (by omega) hb ((fits_of hmk.1 hmk.2 (by omega)).trans (by assumption))]; rfl)
      | (rw [find_ok (rs := rs) (f := f) (by omega) (by omega), first_none (any_end (k := k) (by omega) hb)]; rfl)
theorem rbfind {w0 : World} {H : List Chunk} (rs : List Rul) (sr : Option Addr) (nr cr : Nat) (hB : Rd w0 H sr nr cr 10 (rs.flatMap RuC)) (hnr : nr = rs.length) (hmr : nr ≤ 140737488351232) (hrs : ∀ k, RuOk (rs.getD k default)) (d : Bool) (f : Frm) (sa : Option Addr) (n c : Nat) (hR : Rd w0 H sa n c 1 (f.data.map (.int .u8))) (hn : n = f.data.length) (hm : n ≤ 140737488351232) (hf : FrOk f) : SC Try.prog w0 15 #[.agg #[.slice sr nr cr, .bool d], FA f sa n c] H (fun v H' => v = .tuple #[.int .i64 (findB rs f).1, .int .i64 (findB rs f).2] ∧ H' = H) := by
 refine SC.enter Try.func15 rfl (Nat.le_of_ble_eq_true rfl) ?_
 refine SW.seq_k fun K0 hK0 => ?_
 refine SW.region _ _ _ _ ?_
 refine RL.s ?_
 refine NV.box rfl (by exact (rfl : _ = [_, _])) ?_
 intro b2_0
 refine RL.s ?_
 refine NV.box rfl (by exact (rfl : _ = [_, _, _, _, _, _, _, _, _, _, _])) ?_
 intro b3_1
 refine RL.p T ?_
 refine RL.p T ?_
 refine RL.nil _ _ _ _ ?_
 refine hK0 _ _ _ ?_
 refine SW.seq_k fun K1 hK1 => ?_
 refine SW.seq_k fun K2 hK2 => ?_
 refine SW.region _ _ _ _ ?_
 refine RL.lvN T rfl rfl rfl rfl rfl (by repeat first | exact At.head _ _ | assumption | exact At.put (by assumption) _ | apply At.tail | apply At.app) (by exact (rfl : _ = [_, _])) ?_
 refine RL.c fun19 (fun hs => rbcheck rs sr nr cr hB.cons.cons hnr hmr hrs d) ?_
 rintro _ _ ⟨rfl, e⟩; obtain rfl := e.symm
 refine RL.p T ?_
 refine RL.p T ?_
 refine RL.join (fr1 := ?_) 3 11 false [12, 13, 14] (fun hs0 hj => ?_) ?_ ?_
 rotate_left
 ·have hs0j := hs0
  try simp only [decide_eq_true_eq, Bool.not_eq_true', decide_eq_false_iff_not, Bool.not_eq_false', Int.not_lt, Int.not_le, Int.toNat_natCast, Bool.and_eq_true, Bool.or_eq_true, Bool.and_eq_false_iff, Bool.or_eq_false_iff] at hs0
  refine RL.lvN T rfl rfl rfl rfl rfl (by repeat first | exact At.head _ _ | assumption | exact At.put (by assumption) _ | apply At.tail | apply At.app) (by exact (rfl : _ = [_, _, _, _, _, _, _, _, _, _, _])) ?_
  refine RL.c fun31 (fun hs => rfcheck f sa n c hR.cons.cons hn hm hf) ?_
  rintro _ _ ⟨rfl, e⟩; obtain rfl := e.symm
  refine RL.p T ?_
  exact hj
 ·repeat first | exact Mx.refl | exact Mx.mix | refine Mx.put rfl ?_ | refine Mx.upd rfl ?_ | refine Mx.updl rfl ?_ | refine Mx.fin rfl ?_ | refine Mx.inner rfl ?_ | refine Mx.none ?_
 refine RL.or ?_
 refine RL.nil _ _ _ _ ?_
 refine hK2 _ _ _ ?_
 refine SW.cs (fun hc0 => ?_) (fun hc0 => ?_)
 ·skip
  refine SW.seq_k fun K3 hK3 => ?_
  refine SW.region _ _ _ _ ?_
  refine RL.p T ?_
  refine RL.p T ?_
  refine RL.nil _ _ _ _ ?_
  refine hK3 _ _ _ ?_
  refine SW.ret ?_
  refine retQ.rr (H) ?_
  clear hK3 K3 hK2 K2 hK1 K1 hK0 K0
  refine ⟨?_, rfl⟩
  first
    | (rw [find_bad (rs := rs) (f := f) (by omega)]; rfl)
    | (rw [find_ok (rs := rs) (f := f) (by omega) (by omega), first_hit (k := k) (by omega) hb (by assumption)]; rfl)
    | (rw [find_ok (rs := rs) (f := f) (by omega) (by omega), first_none (any_end (k := k) (by omega) hb)]; rfl)
 ·skip
  refine SW.skip ?_
  refine hK1 _ _ _ ?_
  refine SW.seq_k fun K4 hK4 => ?_
  refine SW.seq_k fun K5 hK5 => ?_
  refine SW.region _ _ _ _ ?_
  refine RL.p T ?_
  refine RL.lv1 T ?_
  refine RL.p T ?_
  refine RL.p T ?_
  refine RL.nil _ _ _ _ ?_
  refine hK5 _ _ _ ?_
  refine SW.block ?_
  refine SW.loopM (fun frB mm fr ds HH => ∃ (k : Nat) , mm = nr - k ∧ (k ≤ nr ∧ ((rs.take k).any (fun q => fitsR q f) = false)) ∧ FrIs [4, 5, 6, 7, 19, 20, 21, 22, 23, 24, 25, 26, 27, 28] frB fr [(19, .int .i64 k)] ∧ ds = [] ∧ HH = (.var b3_1 28 (FC f sa n c) :: .var b2_0 24 [.slice sr nr cr, .bool d] :: H)) (n := nr - 0) ?_ ?_
  ·exact ⟨0, rfl, ⟨Nat.zero_le _, rfl⟩, (.cons rfl (.nil (by repeat first | exact Mx.refl | exact Mx.mix | refine Mx.put rfl ?_ | refine Mx.upd rfl ?_ | refine Mx.updl rfl ?_ | refine Mx.fin rfl ?_ | refine Mx.inner rfl ?_ | refine Mx.none ?_))), rfl, rfl⟩
  ·rintro mm fr ds HH ⟨k, rfl, ⟨hk, hb⟩, hFr, rfl, eHH⟩
   obtain rfl := eHH.symm
   obtain ⟨frU, rfl⟩ := hFr.eq
   clear hFr
   refine SW.seq_k fun K6 hK6 => ?_
   refine SW.region _ _ _ _ ?_
   refine RL.p T ?_
   refine RL.nil _ _ _ _ ?_
   refine hK6 _ _ _ ?_
   refine SW.seq_k fun K7 hK7 => ?_
   refine SW.cs (fun hc1 => ?_) (fun hc1 => ?_)
   ·skip
    refine SW.skip ?_
    refine hK7 _ _ _ ?_
    refine SW.seq_k fun K8 hK8 => ?_
    refine SW.block ?_
    refine SW.seq_k fun K9 hK9 => ?_
    refine SW.region _ _ _ _ ?_
    refine RL.p T ?_
    refine RL.ix T ?_
    refine RL.leN T ?_ (hvs := (by exact (rfl : _ = [_, _, _, _, _, _, _, _, _, _])))
    refine RL.s ?_
    refine NV.alloc T rfl rfl rfl (by exact (rfl : _ = [_, _, _, _, _, _, _, _, _, _])) ?_
    intro b7_2
    refine RL.p T ?_
    refine RL.s ?_
    first
      | refine NV.store_var1 T rfl rfl rfl rfl (by conv => lhs; whnf) rfl (by repeat first | exact At.head _ _ | assumption | exact At.put (by assumption) _ | apply At.tail | apply At.app) rfl (by exact (rfl : _ = [_, _, _, _, _, _, _, _, _, _])) ?_
      | refine NV.store_var T rfl rfl rfl (by exact (rfl : _ = [_, _, _, _, _, _, _, _, _, _])) rfl rfl (by repeat first | exact At.head _ _ | assumption | exact At.put (by assumption) _ | apply At.tail | apply At.app) (Nat.le_of_ble_eq_true rfl) (by exact (rfl : _ = [_, _, _, _, _, _, _, _, _, _])) ?_
      | refine NV.store_elem T rfl rfl rfl rfl (by conv => lhs; whnf) rfl (by repeat first | exact At.head _ _ | assumption | exact At.put (by assumption) _ | apply At.tail | apply At.app) (by omega) ?_
    refine RL.nil _ _ _ _ ?_
    refine hK9 _ _ _ ?_
    refine SW.seq_k fun K10 hK10 => ?_
    refine SW.region _ _ _ _ ?_
    refine RL.lvN T rfl rfl rfl rfl rfl (by repeat first | exact At.head _ _ | assumption | exact At.put (by assumption) _ | apply At.tail | apply At.app) (by exact (rfl : _ = [_, _, _, _, _, _, _, _, _, _])) ?_
    refine RL.lvN T rfl rfl rfl rfl rfl (by repeat first | exact At.head _ _ | assumption | exact At.put (by assumption) _ | apply At.tail | apply At.app) (by exact (rfl : _ = [_, _, _, _, _, _, _, _, _, _, _])) ?_
    refine RL.c fun18 (fun hs => rqfits (rs.getD k default) (hrs k) f sa n c hR.cons.cons.cons hn hm hf) ?_
    rintro _ _ ⟨rfl, e⟩; obtain rfl := e.symm
    refine RL.drop ?_
    refine RL.nil _ _ _ _ ?_
    refine hK10 _ _ _ ?_
    refine SW.cs (fun hc2 => ?_) (fun hc2 => ?_)
    ·skip
     refine SW.seq_k fun K11 hK11 => ?_
     refine SW.region _ _ _ _ ?_
     refine RL.p T ?_
     refine RL.p T ?_
     refine RL.p T ?_
     refine RL.nil _ _ _ _ ?_
     refine hK11 _ _ _ ?_
     refine SW.ret ?_
     refine retQ.rr (H) ?_
     clear hK11 K11 hK10 K10 hK9 K9 hK8 K8 hK7 K7 hK6 K6 hK5 K5 hK4 K4 hK2 K2 hK1 K1 hK0 K0
     refine ⟨?_, rfl⟩
     first
       | (rw [find_bad (rs := rs) (f := f) (by omega)]; rfl)
       | (rw [find_ok (rs := rs) (f := f) (by omega) (by omega), first_hit (k := k) (by omega) hb (by assumption)]; rfl)
       | (rw [find_ok (rs := rs) (f := f) (by omega) (by omega), first_none (any_end (k := k) (by omega) hb)]; rfl)
    ·skip
     refine SW.skip ?_
     refine hK8 _ _ _ ?_
     refine SW.region _ _ _ _ ?_
     first | refine RL.ar ?_ | refine RL.p T ?_
     refine RL.p T ?_
     refine RL.nil _ _ _ _ ?_
     exact ⟨nr - (k + 1), (by omega), k + 1, (by rfl), ⟨by omega, any_step (by omega) hb (by assumption)⟩, (.cons rfl (.nil (by repeat first | exact Mx.refl | exact Mx.mix | refine Mx.put rfl ?_ | refine Mx.upd rfl ?_ | refine Mx.updl rfl ?_ | refine Mx.fin rfl ?_ | refine Mx.inner rfl ?_ | refine Mx.none ?_))), rfl, rfl⟩
   ·skip
    refine SW.exit ?_
    refine hK4 _ _ _ ?_
    refine SW.seq_k fun K12 hK12 => ?_
    refine SW.region _ _ _ _ ?_
    refine RL.p T ?_
    refine RL.p T ?_
    refine RL.nil _ _ _ _ ?_
    refine hK12 _ _ _ ?_
    refine SW.ret ?_
    refine retQ.rr (H) ?_
    clear hK12 K12 hK7 K7 hK6 K6 hK5 K5 hK4 K4 hK2 K2 hK1 K1 hK0 K0
    refine ⟨?_, rfl⟩
    first
      | (rw [find_bad (rs := rs) (f := f) (by omega)]; rfl)
      | (rw [find_ok (rs := rs) (f := f) (by omega) (by omega), first_hit (k := k) (by omega) hb (by assumption)]; rfl)
      | (rw [find_ok (rs := rs) (f := f) (by omega) (by omega), first_none (any_end (k := k) (by omega) hb)]; rfl)
theorem bin {w0 : World} {H : List Chunk} (rs : List Rul) (sr : Option Addr) (nr cr : Nat) (hB : Rd w0 H sr nr cr 10 (rs.flatMap RuC)) (hnr : nr = rs.length) (hmr : nr ≤ 140737488351232) (hrs : ∀ k, RuOk (rs.getD k default)) (d : Bool) (f : Frm) (sa : Option Addr) (n c : Nat) (hR : Rd w0 H sa n c 1 (f.data.map (.int .u8))) (hn : n = f.data.length) (hm : n ≤ 140737488351232) (hf : FrOk f) : SC Try.prog w0 13 #[.agg #[.slice sr nr cr, .bool d], FA f sa n c] H (fun v H' => v = .tuple #[.bool (inB rs d f).1, .int .i64 (inB rs d f).2] ∧ H' = H) := by
 refine SC.enter Try.func13 rfl (Nat.le_of_ble_eq_true rfl) ?_
 refine SW.seq_k fun K0 hK0 => ?_
 refine SW.region _ _ _ _ ?_
 refine RL.s ?_
 refine NV.box rfl (by exact (rfl : _ = [_, _])) ?_
 intro b2_0
 refine RL.s ?_
 refine NV.box rfl (by exact (rfl : _ = [_, _, _, _, _, _, _, _, _, _, _])) ?_
 intro b3_1
 refine RL.p T ?_
 refine RL.p T ?_
 refine RL.nil _ _ _ _ ?_
 refine hK0 _ _ _ ?_
 refine SW.seq_k fun K1 hK1 => ?_
 refine SW.region _ _ _ _ ?_
 refine RL.lvN T rfl rfl rfl rfl rfl (by repeat first | exact At.head _ _ | assumption | exact At.put (by assumption) _ | apply At.tail | apply At.app) (by exact (rfl : _ = [_, _])) ?_
 refine RL.lvN T rfl rfl rfl rfl rfl (by repeat first | exact At.head _ _ | assumption | exact At.put (by assumption) _ | apply At.tail | apply At.app) (by exact (rfl : _ = [_, _, _, _, _, _, _, _, _, _, _])) ?_
 refine RL.c fun14 (fun hs => bfind rs sr nr cr hB.cons.cons hnr hmr hrs d f sa n c hR.cons.cons hn hm hf) ?_
 rintro _ _ ⟨rfl, e⟩; obtain rfl := e.symm
 refine RL.p T ?_
 refine RL.p T ?_
 refine RL.p T ?_
 refine RL.p T ?_
 refine RL.p T ?_
 refine RL.nil _ _ _ _ ?_
 refine hK1 _ _ _ ?_
 refine SW.seq_k fun K2 hK2 => ?_
 refine SW.seq_k fun K3 hK3 => ?_
 refine SW.region _ _ _ _ ?_
 refine RL.p T ?_
 refine RL.nil _ _ _ _ ?_
 refine hK3 _ _ _ ?_
 refine SW.block ?_
 refine SW.seq_k fun K4 hK4 => ?_
 refine SW.region _ _ _ _ ?_
 refine RL.p T ?_
 refine RL.p T ?_
 refine RL.nil _ _ _ _ ?_
 refine hK4 _ _ _ ?_
 refine SW.cs (fun hc0 => ?_) (fun hc0 => ?_)
 ·skip
  refine SW.seq_k fun K5 hK5 => ?_
  have hfl := find_lt hc0
  refine SW.region _ _ _ _ ?_
  refine RL.p T ?_
  refine RL.lv1 T ?_
  refine RL.p T ?_
  refine RL.ix T ?_
  refine RL.p T ?_
  refine RL.leF T ?_
  refine RL.p T ?_
  refine RL.p T ?_
  refine RL.nil _ _ _ _ ?_
  refine hK5 _ _ _ ?_
  refine SW.ret ?_
  refine retQ.rr (H) ?_
  clear hK5 K5 hK4 K4 hK3 K3 hK2 K2 hK1 K1 hK0 K0
  refine ⟨?_, rfl⟩
  first
    | (rw [in_hit (rs := rs) (f := f) (by omega)]; rfl)
    | (rw [in_none (rs := rs) (f := f) (by omega)]; rfl)
    | (rw [in_bad (rs := rs) (f := f) (by omega) (by omega)]; rfl)
 ·skip
  refine SW.seq_k fun K6 hK6 => ?_
  refine SW.region _ _ _ _ ?_
  refine RL.p T ?_
  refine RL.p T ?_
  refine RL.nil _ _ _ _ ?_
  refine hK6 _ _ _ ?_
  refine SW.cs (fun hc1 => ?_) (fun hc1 => ?_)
  ·skip
   refine SW.seq_k fun K7 hK7 => ?_
   refine SW.region _ _ _ _ ?_
   refine RL.p T ?_
   refine RL.lv1 T ?_
   refine RL.p T ?_
   refine RL.p T ?_
   refine RL.nil _ _ _ _ ?_
   refine hK7 _ _ _ ?_
   refine SW.ret ?_
   refine retQ.rr (H) ?_
   clear hK7 K7 hK6 K6 hK4 K4 hK3 K3 hK2 K2 hK1 K1 hK0 K0
   refine ⟨?_, rfl⟩
   first
     | (rw [in_hit (rs := rs) (f := f) (by omega)]; rfl)
     | (rw [in_none (rs := rs) (f := f) (by omega)]; rfl)
     | (rw [in_bad (rs := rs) (f := f) (by omega) (by omega)]; rfl)
  ·skip
   refine SW.skip ?_
   refine hK2 _ _ _ ?_
   refine SW.seq_k fun K8 hK8 => ?_
   refine SW.region _ _ _ _ ?_
   refine RL.p T ?_
   refine RL.p T ?_
   refine RL.p T ?_
   refine RL.nil _ _ _ _ ?_
   refine hK8 _ _ _ ?_
   refine SW.ret ?_
   refine retQ.rr (H) ?_
   clear hK8 K8 hK6 K6 hK4 K4 hK3 K3 hK2 K2 hK1 K1 hK0 K0
   refine ⟨?_, rfl⟩
   first
     | (rw [in_hit (rs := rs) (f := f) (by omega)]; rfl)
     | (rw [in_none (rs := rs) (f := f) (by omega)]; rfl)
     | (rw [in_bad (rs := rs) (f := f) (by omega) (by omega)]; rfl)
theorem rbin {w0 : World} {H : List Chunk} (rs : List Rul) (sr : Option Addr) (nr cr : Nat) (hB : Rd w0 H sr nr cr 10 (rs.flatMap RuC)) (hnr : nr = rs.length) (hmr : nr ≤ 140737488351232) (hrs : ∀ k, RuOk (rs.getD k default)) (d : Bool) (f : Frm) (sa : Option Addr) (n c : Nat) (hR : Rd w0 H sa n c 1 (f.data.map (.int .u8))) (hn : n = f.data.length) (hm : n ≤ 140737488351232) (hf : FrOk f) : SC Try.prog w0 16 #[.agg #[.slice sr nr cr, .bool d], FA f sa n c] H (fun v H' => v = .tuple #[.bool (inB rs d f).1, .int .i64 (inB rs d f).2] ∧ H' = H) := by
 refine SC.enter Try.func16 rfl (Nat.le_of_ble_eq_true rfl) ?_
 refine SW.seq_k fun K0 hK0 => ?_
 refine SW.region _ _ _ _ ?_
 refine RL.s ?_
 refine NV.box rfl (by exact (rfl : _ = [_, _])) ?_
 intro b2_0
 refine RL.s ?_
 refine NV.box rfl (by exact (rfl : _ = [_, _, _, _, _, _, _, _, _, _, _])) ?_
 intro b3_1
 refine RL.p T ?_
 refine RL.p T ?_
 refine RL.nil _ _ _ _ ?_
 refine hK0 _ _ _ ?_
 refine SW.seq_k fun K1 hK1 => ?_
 refine SW.region _ _ _ _ ?_
 refine RL.lvN T rfl rfl rfl rfl rfl (by repeat first | exact At.head _ _ | assumption | exact At.put (by assumption) _ | apply At.tail | apply At.app) (by exact (rfl : _ = [_, _])) ?_
 refine RL.lvN T rfl rfl rfl rfl rfl (by repeat first | exact At.head _ _ | assumption | exact At.put (by assumption) _ | apply At.tail | apply At.app) (by exact (rfl : _ = [_, _, _, _, _, _, _, _, _, _, _])) ?_
 refine RL.c fun15 (fun hs => rbfind rs sr nr cr hB.cons.cons hnr hmr hrs d f sa n c hR.cons.cons hn hm hf) ?_
 rintro _ _ ⟨rfl, e⟩; obtain rfl := e.symm
 refine RL.p T ?_
 refine RL.p T ?_
 refine RL.p T ?_
 refine RL.p T ?_
 refine RL.p T ?_
 refine RL.nil _ _ _ _ ?_
 refine hK1 _ _ _ ?_
 refine SW.seq_k fun K2 hK2 => ?_
 refine SW.seq_k fun K3 hK3 => ?_
 refine SW.region _ _ _ _ ?_
 refine RL.p T ?_
 refine RL.nil _ _ _ _ ?_
 refine hK3 _ _ _ ?_
 refine SW.block ?_
 refine SW.seq_k fun K4 hK4 => ?_
 refine SW.region _ _ _ _ ?_
 refine RL.p T ?_
 refine RL.p T ?_
 refine RL.nil _ _ _ _ ?_
 refine hK4 _ _ _ ?_
 refine SW.cs (fun hc0 => ?_) (fun hc0 => ?_)
 ·skip
  refine SW.seq_k fun K5 hK5 => ?_
  have hfl := find_lt hc0
  refine SW.region _ _ _ _ ?_
  refine RL.p T ?_
  refine RL.lv1 T ?_
  refine RL.p T ?_
  refine RL.ix T ?_
  refine RL.p T ?_
  refine RL.leF T ?_
  refine RL.p T ?_
  refine RL.p T ?_
  refine RL.p T ?_
  refine RL.nil _ _ _ _ ?_
  refine hK5 _ _ _ ?_
  refine SW.ret ?_
  refine retQ.rr (H) ?_
  clear hK5 K5 hK4 K4 hK3 K3 hK2 K2 hK1 K1 hK0 K0
  refine ⟨?_, rfl⟩
  first
    | (rw [in_hit (rs := rs) (f := f) (by omega), hc0]; rfl)
    | (rw [in_none (rs := rs) (f := f) (by omega)]; rfl)
    | (rw [in_bad (rs := rs) (f := f) (by omega) (by omega)]; rfl)
 ·skip
  refine SW.seq_k fun K6 hK6 => ?_
  refine SW.region _ _ _ _ ?_
  refine RL.p T ?_
  refine RL.p T ?_
  refine RL.nil _ _ _ _ ?_
  refine hK6 _ _ _ ?_
  refine SW.cs (fun hc1 => ?_) (fun hc1 => ?_)
  ·skip
   refine SW.seq_k fun K7 hK7 => ?_
   refine SW.region _ _ _ _ ?_
   refine RL.p T ?_
   refine RL.lv1 T ?_
   refine RL.p T ?_
   refine RL.p T ?_
   refine RL.nil _ _ _ _ ?_
   refine hK7 _ _ _ ?_
   refine SW.ret ?_
   refine retQ.rr (H) ?_
   clear hK7 K7 hK6 K6 hK4 K4 hK3 K3 hK2 K2 hK1 K1 hK0 K0
   refine ⟨?_, rfl⟩
   first
     | (rw [in_hit (rs := rs) (f := f) (by omega), hc0]; rfl)
     | (rw [in_none (rs := rs) (f := f) (by omega)]; rfl)
     | (rw [in_bad (rs := rs) (f := f) (by omega) (by omega)]; rfl)
  ·skip
   refine SW.skip ?_
   refine hK2 _ _ _ ?_
   refine SW.seq_k fun K8 hK8 => ?_
   refine SW.region _ _ _ _ ?_
   refine RL.p T ?_
   refine RL.p T ?_
   refine RL.p T ?_
   refine RL.nil _ _ _ _ ?_
   refine hK8 _ _ _ ?_
   refine SW.ret ?_
   refine retQ.rr (H) ?_
   clear hK8 K8 hK6 K6 hK4 K4 hK3 K3 hK2 K2 hK1 K1 hK0 K0
   refine ⟨?_, rfl⟩
   first
     | (rw [in_hit (rs := rs) (f := f) (by omega), hc0]; rfl)
     | (rw [in_none (rs := rs) (f := f) (by omega)]; rfl)
     | (rw [in_bad (rs := rs) (f := f) (by omega) (by omega)]; rfl)
end Go.Proofs.Ytgdnanfnmaafoaa.M
