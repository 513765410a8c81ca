import Derived.Test.YthigfghfpmpiiaaDoorProg
import Derived.Test.YthigfghfpmpiiaaDoorFL20DE
import Derived.Test.YthigfghfpmpiiaaDoorP19c
set_option linter.unusedVariables false
set_option linter.unusedSimpArgs false
namespace Go.Proofs.YthigfghfpmpiiaaDoor.M
open Go Go.Sep Go.Proofs
set_option maxRecDepth 10000
set_option maxHeartbeats 2000000
theorem fun8 : Fun Tryd.prog 8 := Fun.mk Tryd.func8 (by kernel_rfl) (by kernel_rfl)
theorem fun9 : Fun Tryd.prog 9 := Fun.mk Tryd.func9 (by kernel_rfl) (by kernel_rfl)
theorem fun11 : Fun Tryd.prog 11 := Fun.mk Tryd.func11 (by kernel_rfl) (by kernel_rfl)
theorem fun17 : Fun Tryd.prog 17 := Fun.mk Tryd.func17 (by kernel_rfl) (by kernel_rfl)
theorem fun18 : Fun Tryd.prog 18 := Fun.mk Tryd.func18 (by kernel_rfl) (by kernel_rfl)
theorem fun19 : Fun Tryd.prog 19 := Fun.mk Tryd.func19 (by kernel_rfl) (by kernel_rfl)
theorem psizeO {w0 : World} {H : List Chunk} (p : Pd) (hp : PdOk w0 H p) (h : wk (mgP p) ≤ 2048) : SC Tryd.prog w0 13 #[PdA p] H (fun v H' => v = .tuple #[.int .i64 ((wk (mgP p) : Nat) : Int), .int .i64 0] ∧ H' = H) := by
  have := psize p hp; rw [sizeP_mg h] at this; exact this
theorem pto {w0 : World} {H : List Chunk} (ps : List Pd) (sr : Option Addr) (nr cr : Nat) (hB : Rd w0 H sr nr cr 2 (ps.flatMap PdC)) (hnr : nr = ps.length) (hmr : nr ≤ 4398046511000) (hps : ∀ k, PdOk w0 H (ps.getD k default)) : SC Tryd.prog w0 11 #[.slice sr nr cr] H (fun v H' => ∃ a c, v = .slice a nr c ∧ H' = .row a nr c 38 2 (ps.flatMap PdC) :: H) := by
 refine SC.enter Tryd.func11 rfl (Nat.le_of_ble_eq_true rfl) ?_
 refine SW.seq_k fun K0 hK0 => ?_
 refine SW.region _ _ _ _ ?_
 refine RL.p T ?_
 refine RL.nil _ _ _ _ ?_
 refine hK0 _ _ _ ?_
 refine SW.seq_k fun K1 hK1 => ?_
 refine SW.region _ _ _ _ ?_
 refine RL.nilrow 38 2 ?_
 refine RL.p T ?_
 refine RL.nil _ _ _ _ ?_
 refine hK1 _ _ _ ?_
 refine SW.seq_k fun K2 hK2 => ?_
 refine SW.seq_k fun K3 hK3 => ?_
 refine SW.region _ _ _ _ ?_
 refine RL.p T ?_
 refine RL.p T ?_
 refine RL.p T ?_
 refine RL.nil _ _ _ _ ?_
 refine hK3 _ _ _ ?_
 refine SW.block ?_
 refine SW.loopM (fun frB mm fr ds HH => ∃ (k : Nat) (a : Option Addr) (c : Nat), mm = nr - k ∧ (k ≤ nr) ∧ FrIs [3, 5, 8, 9, 10, 11, 12, 13, 14, 15, 16] frB fr [(3, .slice a k c), (8, .int .i64 k)] ∧ ds = [] ∧ HH = (.row a k c 38 2 ((ps.take k).flatMap PdC) :: H)) (n := nr - 0) ?_ ?_
 ·exact ⟨0, none, 0, rfl, Nat.zero_le _, (.cons rfl (.consI rfl (by first | omega | rfl) (.nil (by repeat first | with_reducible exact Mx.refl | with_reducible exact Mx.mix | refine Mx.put rfl ?_ | refine Mx.upd rfl ?_ | refine Mx.updl rfl ?_ | refine Mx.fin rfl ?_ | refine Mx.inner rfl ?_ | refine Mx.none ?_ | exact Mx.refl | exact Mx.mix)))), rfl, rfl⟩
 ·rintro mm fr ds HH ⟨k, a, c, rfl, hk, hFr, rfl, eHH⟩
  obtain rfl := eHH.symm
  obtain ⟨frU, rfl⟩ := hFr.eq
  clear hFr
  refine SW.seq_k fun K4 hK4 => ?_
  refine SW.region _ _ _ _ ?_
  refine RL.p T ?_
  refine RL.nil _ _ _ _ ?_
  refine hK4 _ _ _ ?_
  refine SW.seq_k fun K5 hK5 => ?_
  refine SW.cs (fun hc0 => ?_) (fun hc0 => ?_)
  ·skip
   refine SW.skip ?_
   refine hK5 _ _ _ ?_
   refine SW.seq_k fun K6 hK6 => ?_
   refine SW.block ?_
   refine SW.seq_k fun K7 hK7 => ?_
   refine SW.region _ _ _ _ ?_
   refine RL.ix T ?_
   refine RL.leN T ?_ (hvs := (by exact (rfl : _ = [_, _])))
   refine RL.s ?_
   refine NV.alloc T rfl rfl rfl (by exact (rfl : _ = [_, _])) ?_
   intro b5_0
   refine RL.s ?_
   refine NV.sN T rfl rfl rfl (by exact (rfl : _ = [_, _])) (by exact (rfl : _ = [_, _])) ?_
   refine RL.nil _ _ _ _ ?_
   refine hK7 _ _ _ ?_
   refine SW.region _ _ _ _ ?_
   refine RL.p T ?_
   refine RL.q (QV.vN T rfl rfl rfl rfl rfl (by exact (rfl : _ = [_, _]))) ?_
   refine RL.bs T rfl rfl rfl (by exact (rfl : _ = some [_, _])) (fun b14_1 => ?_)
   refine RL.apS T ([(ps.getD k default)]) (fun a0_ c0_ => ?_)
   refine RL.p T ?_
   refine RL.drop ?_
   refine RL.nil _ _ _ _ ?_
   refine hK6 _ _ _ ?_
   refine SW.region _ _ _ _ ?_
   first | refine RL.ar ?_ | refine RL.p T ?_
   refine RL.p T ?_
   refine RL.nil _ _ _ _ ?_
   exact ⟨nr - (k + 1), (by omega), k + 1, a0_, c0_, (by rfl), by omega, (.cons rfl (.consI rfl (by first | omega | rfl) (.nil (by repeat first | with_reducible exact Mx.refl | with_reducible exact Mx.mix | refine Mx.put rfl ?_ | refine Mx.upd rfl ?_ | refine Mx.updl rfl ?_ | refine Mx.fin rfl ?_ | refine Mx.inner rfl ?_ | refine Mx.none ?_ | exact Mx.refl | exact Mx.mix)))), rfl, (by rw [pd_snoc (by omega)]; rfl)⟩
  ·skip
   refine SW.exit ?_
   refine hK2 _ _ _ ?_
   refine SW.seq_k fun K8 hK8 => ?_
   refine SW.region _ _ _ _ ?_
   refine RL.p T ?_
   refine RL.p T ?_
   refine RL.nil _ _ _ _ ?_
   refine hK8 _ _ _ ?_
   refine SW.ret ?_
   obtain rfl : k = nr := by omega
   rw [List.take_of_length_le (by omega)]
   refine retQ.rr ((.row a k c 38 2 (ps.flatMap PdC) :: H)) ?_
   clear hK8 K8 hK5 K5 hK4 K4 hK3 K3 hK2 K2 hK1 K1 hK0 K0
   exact ⟨a, c, rfl, rfl⟩
theorem great {w0 : World} {H : List Chunk} (ps : List Pd) (sr : Option Addr) (nr cr : Nat) (hB : Rd w0 H sr nr cr 2 (ps.flatMap PdC)) (hnr : nr = ps.length) (hmr : nr ≤ 4398046511000) (hps : ∀ k, PdOk w0 H (ps.getD k default)) : SC Tryd.prog w0 9 #[.slice sr nr cr] H (fun v H' => ∃ b, v = .bool b ∧ H' = H ∧ (b = false → nr ≤ 500)) := by
 refine SC.enter Tryd.func9 rfl (Nat.le_of_ble_eq_true rfl) ?_
 refine SW.seq_k fun K0 hK0 => ?_
 have hmx := fun k => (hps k).max
 refine SW.region _ _ _ _ ?_
 refine RL.p T ?_
 refine RL.nil _ _ _ _ ?_
 refine hK0 _ _ _ ?_
 refine SW.seq_k fun K1 hK1 => ?_
 refine SW.region _ _ _ _ ?_
 refine RL.p T ?_
 refine RL.nil _ _ _ _ ?_
 refine hK1 _ _ _ ?_
 refine SW.seq_k fun K2 hK2 => ?_
 refine SW.seq_k fun K3 hK3 => ?_
 refine SW.region _ _ _ _ ?_
 refine RL.p T ?_
 refine RL.p T ?_
 refine RL.p T ?_
 refine RL.nil _ _ _ _ ?_
 refine hK3 _ _ _ ?_
 refine SW.block ?_
 refine SW.loopM (fun frB mm fr ds HH => ∃ (k : Nat) (s : Int), mm = nr - k ∧ (k ≤ nr) ∧ FrIs [3, 5, 8, 9, 10, 11, 12, 13, 14, 15, 16, 17] frB fr [(3, .int .i64 s), (8, .int .i64 k)] ∧ ds = [] ∧ HH = H) (n := nr - 0) ?_ ?_
 ·exact ⟨0, 0, rfl, Nat.zero_le _, (.cons rfl (.consI rfl (by first | omega | rfl) (.nil (by repeat first | with_reducible exact Mx.refl | with_reducible exact Mx.mix | refine Mx.put rfl ?_ | refine Mx.upd rfl ?_ | refine Mx.updl rfl ?_ | refine Mx.fin rfl ?_ | refine Mx.inner rfl ?_ | refine Mx.none ?_ | exact Mx.refl | exact Mx.mix)))), rfl, rfl⟩
 ·rintro mm fr ds HH ⟨k, s, rfl, hk, hFr, rfl, eHH⟩
  obtain rfl := eHH.symm
  obtain ⟨frU, rfl⟩ := hFr.eq
  clear hFr
  refine SW.seq_k fun K4 hK4 => ?_
  refine SW.region _ _ _ _ ?_
  refine RL.p T ?_
  refine RL.nil _ _ _ _ ?_
  refine hK4 _ _ _ ?_
  refine SW.seq_k fun K5 hK5 => ?_
  refine SW.cs (fun hc0 => ?_) (fun hc0 => ?_)
  ·skip
   refine SW.skip ?_
   refine hK5 _ _ _ ?_
   refine SW.seq_k fun K6 hK6 => ?_
   refine SW.block ?_
   refine SW.seq_k fun K7 hK7 => ?_
   refine SW.region _ _ _ _ ?_
   refine RL.ix T ?_
   refine RL.leN T ?_ (hvs := (by exact (rfl : _ = [_, _])))
   refine RL.s ?_
   refine NV.alloc T rfl rfl rfl (by exact (rfl : _ = [_, _])) ?_
   intro b5_0
   refine RL.s ?_
   refine NV.sN T rfl rfl rfl (by exact (rfl : _ = [_, _])) (by exact (rfl : _ = [_, _])) ?_
   refine RL.nil _ _ _ _ ?_
   refine hK7 _ _ _ ?_
   refine SW.region _ _ _ _ ?_
   refine RL.p T ?_
   refine RL.p T ?_
   refine RL.lv1 T ?_
   refine RL.p T ?_
   first | refine RL.ar ?_ | refine RL.p T ?_
   refine RL.p T ?_
   refine RL.drop ?_
   refine RL.nil _ _ _ _ ?_
   refine hK6 _ _ _ ?_
   refine SW.region _ _ _ _ ?_
   first | refine RL.ar ?_ | refine RL.p T ?_
   refine RL.p T ?_
   refine RL.nil _ _ _ _ ?_
   exact ⟨nr - (k + 1), (by omega), k + 1, _, (by rfl), by omega, (.cons rfl (.consI rfl (by first | omega | rfl) (.nil (by repeat first | with_reducible exact Mx.refl | with_reducible exact Mx.mix | refine Mx.put rfl ?_ | refine Mx.upd rfl ?_ | refine Mx.updl rfl ?_ | refine Mx.fin rfl ?_ | refine Mx.inner rfl ?_ | refine Mx.none ?_ | exact Mx.refl | exact Mx.mix)))), rfl, rfl⟩
  ·skip
   refine SW.exit ?_
   refine hK2 _ _ _ ?_
   refine SW.seq_k fun K8 hK8 => ?_
   refine SW.region _ _ _ _ ?_
   refine RL.p T ?_
   refine RL.p T ?_
   refine RL.p T ?_
   refine RL.p T ?_
   refine RL.join (fr1 := ?_) 2 21 false [22, 23] (fun hs0 hj => ?_) ?_ ?_
   rotate_left
   ·have hs0j := hs0
    try simp only [decide_eq_true_eq, Bool.not_eq_true', decide_eq_false_iff_not, Bool.not_eq_false', Int.not_lt, Int.not_le, Int.toNat_natCast, Bool.and_eq_true, Bool.or_eq_true, Bool.and_eq_false_iff, Bool.or_eq_false_iff] at hs0
    refine RL.p T ?_
    refine RL.p T ?_
    exact hj
   ·repeat first | with_reducible exact Mx.refl | with_reducible exact Mx.mix | refine Mx.put rfl ?_ | refine Mx.upd rfl ?_ | refine Mx.updl rfl ?_ | refine Mx.fin rfl ?_ | refine Mx.inner rfl ?_ | refine Mx.none ?_ | exact Mx.refl | exact Mx.mix
   refine RL.or ?_
   refine RL.p T ?_
   refine RL.nil _ _ _ _ ?_
   refine hK8 _ _ _ ?_
   refine SW.ret ?_
   refine retQ.rr (H) ?_
   clear hK8 K8 hK5 K5 hK4 K4 hK3 K3 hK2 K2 hK1 K1 hK0 K0
   refine ⟨_, rfl, rfl, ?_⟩
   intro h
   simp at h
   omega
theorem alive {w0 : World} {H : List Chunk}  : SC Tryd.prog w0 8 #[] H (fun v H' => v = .bool true ∧ H' = H) := by
 refine SC.enter Tryd.func8 rfl (Nat.le_of_ble_eq_true rfl) ?_
 refine SW.seq_k fun K0 hK0 => ?_
 refine SW.region _ _ _ _ ?_
 refine RL.p T ?_
 refine RL.nil _ _ _ _ ?_
 refine hK0 _ _ _ ?_
 refine SW.seq_k fun K1 hK1 => ?_
 refine SW.region _ _ _ _ ?_
 refine RL.bs T rfl rfl rfl (by exact (rfl : _ = some [_])) (fun b4_0 => ?_)
 refine RL.s ?_
 first | refine NV.buildc T rfl (rfl : _ = some [_, _]) ?_ | refine NV.buildz T rfl (rfl : _ = some [_, _]) ?_ | refine NV.pure T (rfl : _ = some (Value.agg #[_, _])) ?_
 refine RL.bs T rfl rfl rfl (by exact (rfl : _ = some [_, _])) (fun b6_1 => ?_)
 refine RL.c fun10 (fun hs => pjoin [(⟨1, [9], some ⟨b4_0, 0, none⟩, 1, 1⟩ : Pd)] _ 1 1 (Rd.rowh hs (by repeat first | exact At.head _ _ | apply At.tail)) rfl (by omega) (one_ok ⟨by dsimp only; omega, rfl, by dsimp only; omega, Byte.one (by omega) (by omega), (Rd.rowh hs (by repeat first | exact At.head _ _ | apply At.tail))⟩)) ?_
 rintro _ _ ⟨a1, c1, rfl, e⟩; obtain rfl := e.symm
 rw [one_join]
 refine RL.p T ?_
 refine RL.p T ?_
 refine RL.p T ?_
 refine RL.p T ?_
 refine RL.p T ?_
 refine RL.nil _ _ _ _ ?_
 refine hK1 _ _ _ ?_
 refine SW.seq_k fun K2 hK2 => ?_
 refine SW.region _ _ _ _ ?_
 refine RL.p T ?_
 refine RL.bs T rfl rfl rfl (by exact (rfl : _ = some [_, _, _, _, _, _, _, _, _, _, _, _])) (fun b11_2 => ?_)
 refine RL.c fun16 (fun hs => same a1 _ 12 c1 12 12 [0, 0, 0, 1, 0, 1, 0, 0, 9, 0, 0, 0] [0, 0, 0, 1, 0, 1, 0, 0, 9, 0, 0, 0] (Rd.rowh hs (by repeat first | exact At.head _ _ | apply At.tail)) (Rd.rowh hs (by repeat first | exact At.head _ _ | apply At.tail)) rfl rfl (by omega) (by omega)) ?_
 rintro _ _ ⟨rfl, e⟩; obtain rfl := e.symm
 refine RL.p T ?_
 refine RL.join (fr1 := ?_) 2 13 true [14, 15] (fun hs0 hj => ?_) ?_ ?_
 rotate_left
 ·have hs0j := hs0
  try simp only [decide_eq_true_eq, Bool.not_eq_true', decide_eq_false_iff_not, Bool.not_eq_false', Int.not_lt, Int.not_le, Int.toNat_natCast, Bool.and_eq_true, Bool.or_eq_true, Bool.and_eq_false_iff, Bool.or_eq_false_iff] at hs0
  refine RL.p T ?_
  refine RL.p T ?_
  exact hj
 ·repeat first | with_reducible exact Mx.refl | with_reducible exact Mx.mix | refine Mx.put rfl ?_ | refine Mx.upd rfl ?_ | refine Mx.updl rfl ?_ | refine Mx.fin rfl ?_ | refine Mx.inner rfl ?_ | refine Mx.none ?_ | exact Mx.refl | exact Mx.mix
 refine RL.and ?_
 refine RL.p T ?_
 refine RL.nil _ _ _ _ ?_
 refine hK2 _ _ _ ?_
 refine SW.ret ?_
 refine retQ.rr (H) ?_
 clear hK2 K2 hK1 K1 hK0 K0
 refine ⟨boolE ?_, rfl⟩; decide
end Go.Proofs.YthigfghfpmpiiaaDoor.M
