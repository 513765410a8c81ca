import Derived.Test.YtnlifdnfkmlfbaaFA
set_option linter.unusedVariables false
set_option linter.unusedSimpArgs false
namespace Go.Proofs.Ytnlifdnfkmlfbaa.M
open Go Go.Sep Go.Proofs
set_option maxRecDepth 10000
set_option maxHeartbeats 2000000
theorem next_1 {w0 : World} {H : List Chunk} (a b : Int) (ha : 0 ≤ a) (ha2 : a ≤ 263) (hb : 0 ≤ b) (hb2 : b ≤ 255) : SC Try.prog w0 11 #[sv a b, .int .i64 1] H (fun v H' => v = .tuple #[sv (tec a b 1) (rec_ a b 1), .int .i64 0] ∧ H' = H) := by
  refine SC.enter Try.func11 rfl (Nat.le_of_ble_eq_true rfl) ?_
  refine SW.seq_k ?_
  intro K0 hK0
  refine SW.region _ _ _ _ ?_
  refine RL.step (Gd.none rfl) rfl rfl ?_
  refine NV.box rfl (by exact (rfl : _ = [_, _, _])) ?_
  intro b2_0
  refine RL.step (Gd.none rfl) rfl rfl ?_
  refine NV.alloc T rfl rfl rfl (by exact (rfl : _ = [_, _, _])) ?_
  intro b4_1
  refine RL.step (Gd.none rfl) rfl rfl ?_
  refine NV.pure T (by conv => lhs; whnf; arg 1; whnf) ?_
  refine RL.nil _ _ _ _ ?_
  refine hK0 _ _ _ ?_
  refine SW.seq_k ?_
  intro K1 hK1
  refine SW.seq_k ?_
  intro K2 hK2
  refine SW.region _ _ _ _ ?_
  refine RL.step (Gd.none rfl) rfl rfl ?_
  first
    | refine NV.load_var1 T rfl rfl rfl rfl (by repeat first | exact At.head _ _ | apply At.tail) rfl ?_
    | refine NV.load_varN T rfl rfl rfl rfl rfl (by repeat first | exact At.head _ _ | apply At.tail) (by exact (rfl : _ = [_, _, _])) rfl ?_
    | refine NV.load_elem T rfl rfl rfl rfl (by assumption) (by first | exact map_get _ _ (by omega) | assumption) ?_
  refine RL.step (Gd.none rfl) rfl rfl ?_
  refine NV.call rfl rfl rfl fun13 rfl rfl (check_ok a b ha ha2 hb hb2) ?_
  rintro _ _ ⟨rfl, rfl⟩
  refine RL.step (Gd.none rfl) rfl rfl ?_
  refine NV.pure T (by conv => lhs; whnf; arg 1; whnf) ?_
  refine RL.nil _ _ _ _ ?_
  refine hK2 _ _ _ ?_
  refine SW.seq_k ?_
  intro K3 hK3
  refine SW.region _ _ _ _ ?_
  refine RL.step (Gd.none rfl) rfl rfl ?_
  refine NV.pure T (by conv => lhs; whnf; arg 1; whnf) ?_
  refine RL.step (Gd.none rfl) rfl rfl ?_
  refine NV.pure T (by conv => lhs; whnf; arg 1; whnf) ?_
  refine RL.nil _ _ _ _ ?_
  refine hK3 _ _ _ ?_
  refine SW.cond_f rfl ?_
  refine SW.skip ?_
  refine hK1 _ _ _ ?_
  refine SW.seq_k ?_
  intro K4 hK4
  refine SW.region _ _ _ _ ?_
  refine RL.step (Gd.none rfl) rfl rfl ?_
  refine NV.pure T (rfl : _ = some (Value.agg #[_, _, _, _, _, _, _])) ?_
  refine RL.step (Gd.none rfl) rfl rfl ?_
  refine NV.alloc T rfl rfl rfl (by exact (rfl : _ = [_, _, _, _, _, _, _])) ?_
  intro b7_2
  refine RL.step (Gd.none rfl) rfl rfl ?_
  first
    | refine NV.store_var1 T rfl rfl rfl rfl (by conv => lhs; whnf) rfl (by repeat first | exact At.head _ _ | apply At.tail) rfl (by exact (rfl : _ = [_, _, _, _, _, _, _])) ?_
    | refine NV.store_var T rfl rfl rfl (by exact (rfl : _ = [_, _, _, _, _, _, _])) rfl rfl (by repeat first | exact At.head _ _ | apply At.tail) (Nat.le_of_ble_eq_true rfl) (by exact (rfl : _ = [_, _, _, _, _, _, _])) ?_
    | refine NV.store_elem T rfl rfl rfl rfl (by conv => lhs; whnf) rfl (by repeat first | exact At.head _ _ | apply At.tail) (by omega) ?_
  refine RL.nil _ _ _ _ ?_
  refine hK4 _ _ _ ?_
  refine SW.seq_k ?_
  intro K5 hK5
  refine SW.block ?_
  refine SW.seq_k ?_
  intro K6 hK6
  refine SW.region _ _ _ _ ?_
  refine RL.step (Gd.none rfl) rfl rfl ?_
  refine NV.pure T (by conv => lhs; whnf; arg 1; whnf) ?_
  refine RL.step (Gd.none rfl) rfl rfl ?_
  refine NV.pure T (by conv => lhs; whnf; arg 1; whnf) ?_
  refine RL.step (Gd.none rfl) rfl rfl ?_
  refine NV.pure T (by conv => lhs; whnf; arg 1; whnf) ?_
  refine RL.split 18 rfl (fun hs0 => ?_) (fun hs0 => ?_)
  · try simp only [decide_eq_true_eq, decide_eq_false_iff_not, Bool.not_eq_true', Bool.not_eq_false', Int.not_lt, Int.not_le, Int.toNat_natCast] at hs0
    exfalso; omega
  · try simp only [decide_eq_true_eq, decide_eq_false_iff_not, Bool.not_eq_true', Bool.not_eq_false', Int.not_lt, Int.not_le, Int.toNat_natCast] at hs0
    refine RL.step (Gd.yes rfl rfl) rfl rfl ?_
    refine NV.pure T (by conv => lhs; whnf; arg 1; whnf) ?_
    refine RL.step (Gd.yes rfl rfl) rfl rfl ?_
    refine NV.pure T (by conv => lhs; whnf; arg 1; whnf) ?_
    refine RL.step (Gd.none rfl) rfl rfl ?_
    refine NV.pure T (by conv => lhs; whnf; arg 1; whnf) ?_
    refine RL.step (Gd.none rfl) rfl rfl ?_
    refine NV.pure T (by conv => lhs; whnf; arg 1; whnf) ?_
    refine RL.nil _ _ _ _ ?_
    refine hK6 _ _ _ ?_
    refine SW.cond rfl (fun hc1 => ?_) (fun hc1 => ?_)
    · try simp only [decide_eq_true_eq, decide_eq_false_iff_not, Bool.not_eq_true', Bool.not_eq_false', Int.not_lt, Int.not_le, Int.toNat_natCast] at hc1
      exfalso; omega
    · try simp only [decide_eq_true_eq, decide_eq_false_iff_not, Bool.not_eq_true', Bool.not_eq_false', Int.not_lt, Int.not_le, Int.toNat_natCast] at hc1
      refine SW.seq_k ?_
      intro K7 hK7
      refine SW.region _ _ _ _ ?_
      refine RL.step (Gd.none rfl) rfl rfl ?_
      refine NV.pure T (by conv => lhs; whnf; arg 1; whnf) ?_
      refine RL.step (Gd.none rfl) rfl rfl ?_
      first
        | refine NV.load_var1 T rfl rfl rfl rfl (by repeat first | exact At.head _ _ | apply At.tail) rfl ?_
        | refine NV.load_varN T rfl rfl rfl rfl rfl (by repeat first | exact At.head _ _ | apply At.tail) (by exact (rfl : _ = [_])) rfl ?_
        | refine NV.load_elem T rfl rfl rfl rfl (by assumption) (by first | exact map_get _ _ (by omega) | assumption) ?_
      refine RL.step (Gd.none rfl) rfl rfl ?_
      refine NV.pure T (by conv => lhs; whnf; arg 1; whnf) ?_
      refine RL.split 26 rfl (fun hs1 => ?_) (fun hs1 => ?_)
      · try simp only [decide_eq_true_eq, decide_eq_false_iff_not, Bool.not_eq_true', Bool.not_eq_false', Int.not_lt, Int.not_le, Int.toNat_natCast] at hs1
        refine RL.step (Gd.yes rfl rfl) rfl rfl ?_
        refine NV.pure T (by conv => lhs; whnf; arg 1; whnf) ?_
        refine RL.step (Gd.yes rfl rfl) rfl rfl ?_
        refine NV.pure T (by conv => lhs; whnf; arg 1; whnf) ?_
        refine RL.step (Gd.none rfl) rfl rfl ?_
        refine NV.pure T (by conv => lhs; whnf; arg 1; whnf) ?_
        refine RL.step (Gd.none rfl) rfl rfl ?_
        refine NV.pure T (by conv => lhs; whnf; arg 1; whnf) ?_
        refine RL.nil _ _ _ _ ?_
        refine hK7 _ _ _ ?_
        refine SW.cond_f rfl ?_
        refine SW.seq_k ?_
        intro K8 hK8
        refine SW.region _ _ _ _ ?_
        refine RL.step (Gd.none rfl) rfl rfl ?_
        refine NV.pure T (by conv => lhs; whnf; arg 1; whnf) ?_
        refine RL.step (Gd.none rfl) rfl rfl ?_
        first
          | refine NV.load_var1 T rfl rfl rfl rfl (by repeat first | exact At.head _ _ | apply At.tail) rfl ?_
          | refine NV.load_varN T rfl rfl rfl rfl rfl (by repeat first | exact At.head _ _ | apply At.tail) (by exact (rfl : _ = [_])) rfl ?_
          | refine NV.load_elem T rfl rfl rfl rfl (by assumption) (by first | exact map_get _ _ (by omega) | assumption) ?_
        refine RL.step (Gd.none rfl) rfl rfl ?_
        refine NV.pure T (by conv => lhs; whnf; arg 1; whnf) ?_
        refine RL.nil _ _ _ _ ?_
        refine hK8 _ _ _ ?_
        refine SW.cond rfl (fun hc3 => ?_) (fun hc3 => ?_)
        · try simp only [decide_eq_true_eq, decide_eq_false_iff_not, Bool.not_eq_true', Bool.not_eq_false', Int.not_lt, Int.not_le, Int.toNat_natCast] at hc3
          refine SW.seq_k ?_
          intro K9 hK9
          refine SW.region _ _ _ _ ?_
          refine RL.step (Gd.none rfl) rfl rfl ?_
          first
            | refine NV.load_var1 T rfl rfl rfl rfl (by repeat first | exact At.head _ _ | apply At.tail) rfl ?_
            | refine NV.load_varN T rfl rfl rfl rfl rfl (by repeat first | exact At.head _ _ | apply At.tail) (by exact (rfl : _ = [_, _, _])) rfl ?_
            | refine NV.load_elem T rfl rfl rfl rfl (by assumption) (by first | exact map_get _ _ (by omega) | assumption) ?_
          refine RL.step (Gd.none rfl) rfl rfl ?_
          first
            | refine NV.store_var1 T rfl rfl rfl rfl (by conv => lhs; whnf) rfl (by repeat first | exact At.head _ _ | apply At.tail) rfl (by exact (rfl : _ = [_, _, _])) ?_
            | refine NV.store_var T rfl rfl rfl (by exact (rfl : _ = [_, _, _])) rfl rfl (by repeat first | exact At.head _ _ | apply At.tail) (Nat.le_of_ble_eq_true rfl) (by exact (rfl : _ = [_, _, _])) ?_
            | refine NV.store_elem T rfl rfl rfl rfl (by conv => lhs; whnf) rfl (by repeat first | exact At.head _ _ | apply At.tail) (by omega) ?_
          refine RL.step (Gd.none rfl) rfl rfl ?_
          refine NV.pure T (by conv => lhs; whnf; arg 1; whnf) ?_
          refine RL.nil _ _ _ _ ?_
          refine hK9 _ _ _ ?_
          refine SW.ret ?_
          refine retQ.ret (H' := H) (by first | exact RVs.var1 T rfl rfl rfl (by repeat first | exact At.head _ _ | apply At.tail) rfl (RVs.tmp (by conv => lhs; whnf) RVs.nil) | exact RVs.varN T rfl rfl rfl rfl (by repeat first | exact At.head _ _ | apply At.tail) (by exact (rfl : _ = [_, _, _])) rfl (RVs.tmp (by conv => lhs; whnf) RVs.nil)) (fun w hw => Sat.sub (by repeat first | exact List.Sublist.refl _ | apply List.Sublist.cons_cons | apply List.Sublist.cons) hw) ?_
          clear hK9 K9 hK8 K8 hK7 K7 hK6 K6 hK5 K5 hK4 K4 hK3 K3 hK2 K2 hK1 K1 hK0 K0
          first | exact ⟨rfl, rfl⟩ | (refine ⟨tup2 (agg3 ?_ ?_ ?_), rfl⟩ <;> simp only [tec, rec_] <;> grind)
        · try simp only [decide_eq_true_eq, decide_eq_false_iff_not, Bool.not_eq_true', Bool.not_eq_false', Int.not_lt, Int.not_le, Int.toNat_natCast] at hc3
          exfalso; omega
      · try simp only [decide_eq_true_eq, decide_eq_false_iff_not, Bool.not_eq_true', Bool.not_eq_false', Int.not_lt, Int.not_le, Int.toNat_natCast] at hs1
        refine RL.guard_no rfl rfl rfl ?_
        refine RL.guard_no rfl rfl rfl ?_
        refine RL.step (Gd.none rfl) rfl rfl ?_
        refine NV.pure T (by conv => lhs; whnf; arg 1; whnf) ?_
        refine RL.step (Gd.none rfl) rfl rfl ?_
        refine NV.pure T (by conv => lhs; whnf; arg 1; whnf) ?_
        refine RL.nil _ _ _ _ ?_
        refine hK7 _ _ _ ?_
        refine SW.cond_f rfl ?_
        refine SW.seq_k ?_
        intro K10 hK10
        refine SW.region _ _ _ _ ?_
        refine RL.step (Gd.none rfl) rfl rfl ?_
        refine NV.pure T (by conv => lhs; whnf; arg 1; whnf) ?_
        refine RL.step (Gd.none rfl) rfl rfl ?_
        first
          | refine NV.load_var1 T rfl rfl rfl rfl (by repeat first | exact At.head _ _ | apply At.tail) rfl ?_
          | refine NV.load_varN T rfl rfl rfl rfl rfl (by repeat first | exact At.head _ _ | apply At.tail) (by exact (rfl : _ = [_])) rfl ?_
          | refine NV.load_elem T rfl rfl rfl rfl (by assumption) (by first | exact map_get _ _ (by omega) | assumption) ?_
        refine RL.step (Gd.none rfl) rfl rfl ?_
        refine NV.pure T (by conv => lhs; whnf; arg 1; whnf) ?_
        refine RL.nil _ _ _ _ ?_
        refine hK10 _ _ _ ?_
        refine SW.cond rfl (fun hc4 => ?_) (fun hc4 => ?_)
        · try simp only [decide_eq_true_eq, decide_eq_false_iff_not, Bool.not_eq_true', Bool.not_eq_false', Int.not_lt, Int.not_le, Int.toNat_natCast] at hc4
          exfalso; omega
        · try simp only [decide_eq_true_eq, decide_eq_false_iff_not, Bool.not_eq_true', Bool.not_eq_false', Int.not_lt, Int.not_le, Int.toNat_natCast] at hc4
          refine SW.skip ?_
          refine hK5 _ _ _ ?_
          refine SW.seq_k ?_
          intro K11 hK11
          refine SW.draw [(35, 0), (36, 1), (37, 2), (38, 3), (39, 4), (5, 6)] [[], [0], [1, 0], [], [2, 1, 0, 3], [4, 2, 1, 0, 3], [5, 4, 2, 1, 0, 3]] mixed (by kernel_rfl) (by kernel_rfl) ?_
          refine RD.q rfl rfl (Gd.none rfl) (pev_sound T (by conv => lhs; whnf; arg 1; whnf)) ?_
          refine RD.q rfl rfl (Gd.none rfl) (by first | exact QV.indexAddr_array T rfl rfl rfl rfl rfl (by omega) (by omega) | exact QV.indexAddr_slice T rfl rfl rfl rfl rfl (Rd.some (by assumption) (by omega)) (by omega) (by omega)) ?_
          refine RD.q rfl rfl (Gd.none rfl) (by first | exact QV.load_var1 T rfl rfl rfl rfl (by repeat first | exact At.head _ _ | apply At.tail) rfl | exact QV.load_varN T rfl rfl rfl rfl rfl (by repeat first | exact At.head _ _ | apply At.tail) (by exact (rfl : _ = [_])) rfl | exact QV.load_elem T rfl rfl rfl rfl (by assumption) (by first | exact map_get _ _ (by omega) | assumption)) ?_
          refine RD.q rfl rfl (Gd.none rfl) (by first | exact QV.load_var1 T rfl rfl rfl rfl (by repeat first | exact At.head _ _ | apply At.tail) rfl | exact QV.load_varN T rfl rfl rfl rfl rfl (by repeat first | exact At.head _ _ | apply At.tail) (by exact (rfl : _ = [_, _, _])) rfl | exact QV.load_elem T rfl rfl rfl rfl (by assumption) (by first | exact map_get _ _ (by omega) | assumption)) ?_
          refine RD.nv rfl rfl rfl (Gd.none rfl) ?_
          refine NV.call rfl rfl rfl fun18 rfl rfl (sent a b (by omega) ha ha2 hb hb2) ?_
          rintro _ _ ⟨rfl, rfl⟩
          refine ⟨Stab.nil, ?_⟩
          refine RD.nv rfl rfl rfl (Gd.none rfl) ?_
          first
            | refine NV.store_var1 T rfl rfl rfl rfl (by conv => lhs; whnf) rfl (by repeat first | exact At.head _ _ | apply At.tail) rfl (by exact (rfl : _ = [_, _, _])) ?_
            | refine NV.store_var T rfl rfl rfl (by exact (rfl : _ = [_, _, _])) rfl rfl (by repeat first | exact At.head _ _ | apply At.tail) (Nat.le_of_ble_eq_true rfl) (by exact (rfl : _ = [_, _, _])) ?_
            | refine NV.store_elem T rfl rfl rfl rfl (by conv => lhs; whnf) rfl (by repeat first | exact At.head _ _ | apply At.tail) (by omega) ?_
          refine ⟨Stab.nil, ?_⟩
          refine RD.q rfl rfl (Gd.none rfl) (pev_sound T (by conv => lhs; whnf; arg 1; whnf)) ?_
          refine RD.k rfl rfl ?_
          refine hK11 _ _ _ ?_
          refine SW.ret ?_
          refine retQ.ret (H' := H) (by first | exact RVs.var1 T rfl rfl rfl (by repeat first | exact At.head _ _ | apply At.tail) rfl (RVs.tmp (by conv => lhs; whnf) RVs.nil) | exact RVs.varN T rfl rfl rfl rfl (by repeat first | exact At.head _ _ | apply At.tail) (by exact (rfl : _ = [_, _, _])) rfl (RVs.tmp (by conv => lhs; whnf) RVs.nil)) (fun w hw => Sat.sub (by repeat first | exact List.Sublist.refl _ | apply List.Sublist.cons_cons | apply List.Sublist.cons) hw) ?_
          clear hK11 K11 hK10 K10 hK7 K7 hK6 K6 hK5 K5 hK4 K4 hK3 K3 hK2 K2 hK1 K1 hK0 K0
          first | exact ⟨rfl, rfl⟩ | (refine ⟨tup2 (agg3 ?_ ?_ ?_), rfl⟩ <;> simp only [tec, rec_] <;> grind)
theorem next_2 {w0 : World} {H : List Chunk} (a b : Int) (ha : 0 ≤ a) (ha2 : a ≤ 263) (hb : 0 ≤ b) (hb2 : b ≤ 255) : SC Try.prog w0 11 #[sv a b, .int .i64 2] H (fun v H' => v = .tuple #[sv (tec a b 2) (rec_ a b 2), .int .i64 0] ∧ H' = H) := by
  refine SC.enter Try.func11 rfl (Nat.le_of_ble_eq_true rfl) ?_
  refine SW.seq_k ?_
  intro K0 hK0
  refine SW.region _ _ _ _ ?_
  refine RL.step (Gd.none rfl) rfl rfl ?_
  refine NV.box rfl (by exact (rfl : _ = [_, _, _])) ?_
  intro b2_0
  refine RL.step (Gd.none rfl) rfl rfl ?_
  refine NV.alloc T rfl rfl rfl (by exact (rfl : _ = [_, _, _])) ?_
  intro b4_1
  refine RL.step (Gd.none rfl) rfl rfl ?_
  refine NV.pure T (by conv => lhs; whnf; arg 1; whnf) ?_
  refine RL.nil _ _ _ _ ?_
  refine hK0 _ _ _ ?_
  refine SW.seq_k ?_
  intro K1 hK1
  refine SW.seq_k ?_
  intro K2 hK2
  refine SW.region _ _ _ _ ?_
  refine RL.step (Gd.none rfl) rfl rfl ?_
  first
    | refine NV.load_var1 T rfl rfl rfl rfl (by repeat first | exact At.head _ _ | apply At.tail) rfl ?_
    | refine NV.load_varN T rfl rfl rfl rfl rfl (by repeat first | exact At.head _ _ | apply At.tail) (by exact (rfl : _ = [_, _, _])) rfl ?_
    | refine NV.load_elem T rfl rfl rfl rfl (by assumption) (by first | exact map_get _ _ (by omega) | assumption) ?_
  refine RL.step (Gd.none rfl) rfl rfl ?_
  refine NV.call rfl rfl rfl fun13 rfl rfl (check_ok a b ha ha2 hb hb2) ?_
  rintro _ _ ⟨rfl, rfl⟩
  refine RL.step (Gd.none rfl) rfl rfl ?_
  refine NV.pure T (by conv => lhs; whnf; arg 1; whnf) ?_
  refine RL.nil _ _ _ _ ?_
  refine hK2 _ _ _ ?_
  refine SW.seq_k ?_
  intro K3 hK3
  refine SW.region _ _ _ _ ?_
  refine RL.step (Gd.none rfl) rfl rfl ?_
  refine NV.pure T (by conv => lhs; whnf; arg 1; whnf) ?_
  refine RL.step (Gd.none rfl) rfl rfl ?_
  refine NV.pure T (by conv => lhs; whnf; arg 1; whnf) ?_
  refine RL.nil _ _ _ _ ?_
  refine hK3 _ _ _ ?_
  refine SW.cond_f rfl ?_
  refine SW.skip ?_
  refine hK1 _ _ _ ?_
  refine SW.seq_k ?_
  intro K4 hK4
  refine SW.region _ _ _ _ ?_
  refine RL.step (Gd.none rfl) rfl rfl ?_
  refine NV.pure T (rfl : _ = some (Value.agg #[_, _, _, _, _, _, _])) ?_
  refine RL.step (Gd.none rfl) rfl rfl ?_
  refine NV.alloc T rfl rfl rfl (by exact (rfl : _ = [_, _, _, _, _, _, _])) ?_
  intro b7_2
  refine RL.step (Gd.none rfl) rfl rfl ?_
  first
    | refine NV.store_var1 T rfl rfl rfl rfl (by conv => lhs; whnf) rfl (by repeat first | exact At.head _ _ | apply At.tail) rfl (by exact (rfl : _ = [_, _, _, _, _, _, _])) ?_
    | refine NV.store_var T rfl rfl rfl (by exact (rfl : _ = [_, _, _, _, _, _, _])) rfl rfl (by repeat first | exact At.head _ _ | apply At.tail) (Nat.le_of_ble_eq_true rfl) (by exact (rfl : _ = [_, _, _, _, _, _, _])) ?_
    | refine NV.store_elem T rfl rfl rfl rfl (by conv => lhs; whnf) rfl (by repeat first | exact At.head _ _ | apply At.tail) (by omega) ?_
  refine RL.nil _ _ _ _ ?_
  refine hK4 _ _ _ ?_
  refine SW.seq_k ?_
  intro K5 hK5
  refine SW.block ?_
  refine SW.seq_k ?_
  intro K6 hK6
  refine SW.region _ _ _ _ ?_
  refine RL.step (Gd.none rfl) rfl rfl ?_
  refine NV.pure T (by conv => lhs; whnf; arg 1; whnf) ?_
  refine RL.step (Gd.none rfl) rfl rfl ?_
  refine NV.pure T (by conv => lhs; whnf; arg 1; whnf) ?_
  refine RL.step (Gd.none rfl) rfl rfl ?_
  refine NV.pure T (by conv => lhs; whnf; arg 1; whnf) ?_
  refine RL.split 18 rfl (fun hs0 => ?_) (fun hs0 => ?_)
  · try simp only [decide_eq_true_eq, decide_eq_false_iff_not, Bool.not_eq_true', Bool.not_eq_false', Int.not_lt, Int.not_le, Int.toNat_natCast] at hs0
    exfalso; omega
  · try simp only [decide_eq_true_eq, decide_eq_false_iff_not, Bool.not_eq_true', Bool.not_eq_false', Int.not_lt, Int.not_le, Int.toNat_natCast] at hs0
    refine RL.step (Gd.yes rfl rfl) rfl rfl ?_
    refine NV.pure T (by conv => lhs; whnf; arg 1; whnf) ?_
    refine RL.step (Gd.yes rfl rfl) rfl rfl ?_
    refine NV.pure T (by conv => lhs; whnf; arg 1; whnf) ?_
    refine RL.step (Gd.none rfl) rfl rfl ?_
    refine NV.pure T (by conv => lhs; whnf; arg 1; whnf) ?_
    refine RL.step (Gd.none rfl) rfl rfl ?_
    refine NV.pure T (by conv => lhs; whnf; arg 1; whnf) ?_
    refine RL.nil _ _ _ _ ?_
    refine hK6 _ _ _ ?_
    refine SW.cond rfl (fun hc1 => ?_) (fun hc1 => ?_)
    · try simp only [decide_eq_true_eq, decide_eq_false_iff_not, Bool.not_eq_true', Bool.not_eq_false', Int.not_lt, Int.not_le, Int.toNat_natCast] at hc1
      exfalso; omega
    · try simp only [decide_eq_true_eq, decide_eq_false_iff_not, Bool.not_eq_true', Bool.not_eq_false', Int.not_lt, Int.not_le, Int.toNat_natCast] at hc1
      refine SW.seq_k ?_
      intro K7 hK7
      refine SW.region _ _ _ _ ?_
      refine RL.step (Gd.none rfl) rfl rfl ?_
      refine NV.pure T (by conv => lhs; whnf; arg 1; whnf) ?_
      refine RL.step (Gd.none rfl) rfl rfl ?_
      first
        | refine NV.load_var1 T rfl rfl rfl rfl (by repeat first | exact At.head _ _ | apply At.tail) rfl ?_
        | refine NV.load_varN T rfl rfl rfl rfl rfl (by repeat first | exact At.head _ _ | apply At.tail) (by exact (rfl : _ = [_])) rfl ?_
        | refine NV.load_elem T rfl rfl rfl rfl (by assumption) (by first | exact map_get _ _ (by omega) | assumption) ?_
      refine RL.step (Gd.none rfl) rfl rfl ?_
      refine NV.pure T (by conv => lhs; whnf; arg 1; whnf) ?_
      refine RL.split 26 rfl (fun hs1 => ?_) (fun hs1 => ?_)
      · try simp only [decide_eq_true_eq, decide_eq_false_iff_not, Bool.not_eq_true', Bool.not_eq_false', Int.not_lt, Int.not_le, Int.toNat_natCast] at hs1
        refine RL.step (Gd.yes rfl rfl) rfl rfl ?_
        refine NV.pure T (by conv => lhs; whnf; arg 1; whnf) ?_
        refine RL.step (Gd.yes rfl rfl) rfl rfl ?_
        refine NV.pure T (by conv => lhs; whnf; arg 1; whnf) ?_
        refine RL.step (Gd.none rfl) rfl rfl ?_
        refine NV.pure T (by conv => lhs; whnf; arg 1; whnf) ?_
        refine RL.step (Gd.none rfl) rfl rfl ?_
        refine NV.pure T (by conv => lhs; whnf; arg 1; whnf) ?_
        refine RL.nil _ _ _ _ ?_
        refine hK7 _ _ _ ?_
        refine SW.cond_f rfl ?_
        refine SW.seq_k ?_
        intro K8 hK8
        refine SW.region _ _ _ _ ?_
        refine RL.step (Gd.none rfl) rfl rfl ?_
        refine NV.pure T (by conv => lhs; whnf; arg 1; whnf) ?_
        refine RL.step (Gd.none rfl) rfl rfl ?_
        first
          | refine NV.load_var1 T rfl rfl rfl rfl (by repeat first | exact At.head _ _ | apply At.tail) rfl ?_
          | refine NV.load_varN T rfl rfl rfl rfl rfl (by repeat first | exact At.head _ _ | apply At.tail) (by exact (rfl : _ = [_])) rfl ?_
          | refine NV.load_elem T rfl rfl rfl rfl (by assumption) (by first | exact map_get _ _ (by omega) | assumption) ?_
        refine RL.step (Gd.none rfl) rfl rfl ?_
        refine NV.pure T (by conv => lhs; whnf; arg 1; whnf) ?_
        refine RL.nil _ _ _ _ ?_
        refine hK8 _ _ _ ?_
        refine SW.cond rfl (fun hc3 => ?_) (fun hc3 => ?_)
        · try simp only [decide_eq_true_eq, decide_eq_false_iff_not, Bool.not_eq_true', Bool.not_eq_false', Int.not_lt, Int.not_le, Int.toNat_natCast] at hc3
          refine SW.seq_k ?_
          intro K9 hK9
          refine SW.region _ _ _ _ ?_
          refine RL.step (Gd.none rfl) rfl rfl ?_
          first
            | refine NV.load_var1 T rfl rfl rfl rfl (by repeat first | exact At.head _ _ | apply At.tail) rfl ?_
            | refine NV.load_varN T rfl rfl rfl rfl rfl (by repeat first | exact At.head _ _ | apply At.tail) (by exact (rfl : _ = [_, _, _])) rfl ?_
            | refine NV.load_elem T rfl rfl rfl rfl (by assumption) (by first | exact map_get _ _ (by omega) | assumption) ?_
          refine RL.step (Gd.none rfl) rfl rfl ?_
          first
            | refine NV.store_var1 T rfl rfl rfl rfl (by conv => lhs; whnf) rfl (by repeat first | exact At.head _ _ | apply At.tail) rfl (by exact (rfl : _ = [_, _, _])) ?_
            | refine NV.store_var T rfl rfl rfl (by exact (rfl : _ = [_, _, _])) rfl rfl (by repeat first | exact At.head _ _ | apply At.tail) (Nat.le_of_ble_eq_true rfl) (by exact (rfl : _ = [_, _, _])) ?_
            | refine NV.store_elem T rfl rfl rfl rfl (by conv => lhs; whnf) rfl (by repeat first | exact At.head _ _ | apply At.tail) (by omega) ?_
          refine RL.step (Gd.none rfl) rfl rfl ?_
          refine NV.pure T (by conv => lhs; whnf; arg 1; whnf) ?_
          refine RL.nil _ _ _ _ ?_
          refine hK9 _ _ _ ?_
          refine SW.ret ?_
          refine retQ.ret (H' := H) (by first | exact RVs.var1 T rfl rfl rfl (by repeat first | exact At.head _ _ | apply At.tail) rfl (RVs.tmp (by conv => lhs; whnf) RVs.nil) | exact RVs.varN T rfl rfl rfl rfl (by repeat first | exact At.head _ _ | apply At.tail) (by exact (rfl : _ = [_, _, _])) rfl (RVs.tmp (by conv => lhs; whnf) RVs.nil)) (fun w hw => Sat.sub (by repeat first | exact List.Sublist.refl _ | apply List.Sublist.cons_cons | apply List.Sublist.cons) hw) ?_
          clear hK9 K9 hK8 K8 hK7 K7 hK6 K6 hK5 K5 hK4 K4 hK3 K3 hK2 K2 hK1 K1 hK0 K0
          first | exact ⟨rfl, rfl⟩ | (refine ⟨tup2 (agg3 ?_ ?_ ?_), rfl⟩ <;> simp only [tec, rec_] <;> grind)
        · try simp only [decide_eq_true_eq, decide_eq_false_iff_not, Bool.not_eq_true', Bool.not_eq_false', Int.not_lt, Int.not_le, Int.toNat_natCast] at hc3
          exfalso; omega
      · try simp only [decide_eq_true_eq, decide_eq_false_iff_not, Bool.not_eq_true', Bool.not_eq_false', Int.not_lt, Int.not_le, Int.toNat_natCast] at hs1
        refine RL.guard_no rfl rfl rfl ?_
        refine RL.guard_no rfl rfl rfl ?_
        refine RL.step (Gd.none rfl) rfl rfl ?_
        refine NV.pure T (by conv => lhs; whnf; arg 1; whnf) ?_
        refine RL.step (Gd.none rfl) rfl rfl ?_
        refine NV.pure T (by conv => lhs; whnf; arg 1; whnf) ?_
        refine RL.nil _ _ _ _ ?_
        refine hK7 _ _ _ ?_
        refine SW.cond_f rfl ?_
        refine SW.seq_k ?_
        intro K10 hK10
        refine SW.region _ _ _ _ ?_
        refine RL.step (Gd.none rfl) rfl rfl ?_
        refine NV.pure T (by conv => lhs; whnf; arg 1; whnf) ?_
        refine RL.step (Gd.none rfl) rfl rfl ?_
        first
          | refine NV.load_var1 T rfl rfl rfl rfl (by repeat first | exact At.head _ _ | apply At.tail) rfl ?_
          | refine NV.load_varN T rfl rfl rfl rfl rfl (by repeat first | exact At.head _ _ | apply At.tail) (by exact (rfl : _ = [_])) rfl ?_
          | refine NV.load_elem T rfl rfl rfl rfl (by assumption) (by first | exact map_get _ _ (by omega) | assumption) ?_
        refine RL.step (Gd.none rfl) rfl rfl ?_
        refine NV.pure T (by conv => lhs; whnf; arg 1; whnf) ?_
        refine RL.nil _ _ _ _ ?_
        refine hK10 _ _ _ ?_
        refine SW.cond rfl (fun hc4 => ?_) (fun hc4 => ?_)
        · try simp only [decide_eq_true_eq, decide_eq_false_iff_not, Bool.not_eq_true', Bool.not_eq_false', Int.not_lt, Int.not_le, Int.toNat_natCast] at hc4
          exfalso; omega
        · try simp only [decide_eq_true_eq, decide_eq_false_iff_not, Bool.not_eq_true', Bool.not_eq_false', Int.not_lt, Int.not_le, Int.toNat_natCast] at hc4
          refine SW.skip ?_
          refine hK5 _ _ _ ?_
          refine SW.seq_k ?_
          intro K11 hK11
          refine SW.draw [(35, 0), (36, 1), (37, 2), (38, 3), (39, 4), (5, 6)] [[], [0], [1, 0], [], [2, 1, 0, 3], [4, 2, 1, 0, 3], [5, 4, 2, 1, 0, 3]] mixed (by kernel_rfl) (by kernel_rfl) ?_
          refine RD.q rfl rfl (Gd.none rfl) (pev_sound T (by conv => lhs; whnf; arg 1; whnf)) ?_
          refine RD.q rfl rfl (Gd.none rfl) (by first | exact QV.indexAddr_array T rfl rfl rfl rfl rfl (by omega) (by omega) | exact QV.indexAddr_slice T rfl rfl rfl rfl rfl (Rd.some (by assumption) (by omega)) (by omega) (by omega)) ?_
          refine RD.q rfl rfl (Gd.none rfl) (by first | exact QV.load_var1 T rfl rfl rfl rfl (by repeat first | exact At.head _ _ | apply At.tail) rfl | exact QV.load_varN T rfl rfl rfl rfl rfl (by repeat first | exact At.head _ _ | apply At.tail) (by exact (rfl : _ = [_])) rfl | exact QV.load_elem T rfl rfl rfl rfl (by assumption) (by first | exact map_get _ _ (by omega) | assumption)) ?_
          refine RD.q rfl rfl (Gd.none rfl) (by first | exact QV.load_var1 T rfl rfl rfl rfl (by repeat first | exact At.head _ _ | apply At.tail) rfl | exact QV.load_varN T rfl rfl rfl rfl rfl (by repeat first | exact At.head _ _ | apply At.tail) (by exact (rfl : _ = [_, _, _])) rfl | exact QV.load_elem T rfl rfl rfl rfl (by assumption) (by first | exact map_get _ _ (by omega) | assumption)) ?_
          refine RD.nv rfl rfl rfl (Gd.none rfl) ?_
          refine NV.call rfl rfl rfl fun19 rfl rfl (got a b (by omega) ha ha2 hb hb2) ?_
          rintro _ _ ⟨rfl, rfl⟩
          refine ⟨Stab.nil, ?_⟩
          refine RD.nv rfl rfl rfl (Gd.none rfl) ?_
          first
            | refine NV.store_var1 T rfl rfl rfl rfl (by conv => lhs; whnf) rfl (by repeat first | exact At.head _ _ | apply At.tail) rfl (by exact (rfl : _ = [_, _, _])) ?_
            | refine NV.store_var T rfl rfl rfl (by exact (rfl : _ = [_, _, _])) rfl rfl (by repeat first | exact At.head _ _ | apply At.tail) (Nat.le_of_ble_eq_true rfl) (by exact (rfl : _ = [_, _, _])) ?_
            | refine NV.store_elem T rfl rfl rfl rfl (by conv => lhs; whnf) rfl (by repeat first | exact At.head _ _ | apply At.tail) (by omega) ?_
          refine ⟨Stab.nil, ?_⟩
          refine RD.q rfl rfl (Gd.none rfl) (pev_sound T (by conv => lhs; whnf; arg 1; whnf)) ?_
          refine RD.k rfl rfl ?_
          refine hK11 _ _ _ ?_
          refine SW.ret ?_
          refine retQ.ret (H' := H) (by first | exact RVs.var1 T rfl rfl rfl (by repeat first | exact At.head _ _ | apply At.tail) rfl (RVs.tmp (by conv => lhs; whnf) RVs.nil) | exact RVs.varN T rfl rfl rfl rfl (by repeat first | exact At.head _ _ | apply At.tail) (by exact (rfl : _ = [_, _, _])) rfl (RVs.tmp (by conv => lhs; whnf) RVs.nil)) (fun w hw => Sat.sub (by repeat first | exact List.Sublist.refl _ | apply List.Sublist.cons_cons | apply List.Sublist.cons) hw) ?_
          clear hK11 K11 hK10 K10 hK7 K7 hK6 K6 hK5 K5 hK4 K4 hK3 K3 hK2 K2 hK1 K1 hK0 K0
          first | exact ⟨rfl, rfl⟩ | (refine ⟨tup2 (agg3 ?_ ?_ ?_), rfl⟩ <;> simp only [tec, rec_] <;> grind)
theorem next_3 {w0 : World} {H : List Chunk} (a b : Int) (ha : 0 ≤ a) (ha2 : a ≤ 263) (hb : 0 ≤ b) (hb2 : b ≤ 255) : SC Try.prog w0 11 #[sv a b, .int .i64 3] H (fun v H' => v = .tuple #[sv (tec a b 3) (rec_ a b 3), .int .i64 0] ∧ H' = H) := by
  refine SC.enter Try.func11 rfl (Nat.le_of_ble_eq_true rfl) ?_
  refine SW.seq_k ?_
  intro K0 hK0
  refine SW.region _ _ _ _ ?_
  refine RL.step (Gd.none rfl) rfl rfl ?_
  refine NV.box rfl (by exact (rfl : _ = [_, _, _])) ?_
  intro b2_0
  refine RL.step (Gd.none rfl) rfl rfl ?_
  refine NV.alloc T rfl rfl rfl (by exact (rfl : _ = [_, _, _])) ?_
  intro b4_1
  refine RL.step (Gd.none rfl) rfl rfl ?_
  refine NV.pure T (by conv => lhs; whnf; arg 1; whnf) ?_
  refine RL.nil _ _ _ _ ?_
  refine hK0 _ _ _ ?_
  refine SW.seq_k ?_
  intro K1 hK1
  refine SW.seq_k ?_
  intro K2 hK2
  refine SW.region _ _ _ _ ?_
  refine RL.step (Gd.none rfl) rfl rfl ?_
  first
    | refine NV.load_var1 T rfl rfl rfl rfl (by repeat first | exact At.head _ _ | apply At.tail) rfl ?_
    | refine NV.load_varN T rfl rfl rfl rfl rfl (by repeat first | exact At.head _ _ | apply At.tail) (by exact (rfl : _ = [_, _, _])) rfl ?_
    | refine NV.load_elem T rfl rfl rfl rfl (by assumption) (by first | exact map_get _ _ (by omega) | assumption) ?_
  refine RL.step (Gd.none rfl) rfl rfl ?_
  refine NV.call rfl rfl rfl fun13 rfl rfl (check_ok a b ha ha2 hb hb2) ?_
  rintro _ _ ⟨rfl, rfl⟩
  refine RL.step (Gd.none rfl) rfl rfl ?_
  refine NV.pure T (by conv => lhs; whnf; arg 1; whnf) ?_
  refine RL.nil _ _ _ _ ?_
  refine hK2 _ _ _ ?_
  refine SW.seq_k ?_
  intro K3 hK3
  refine SW.region _ _ _ _ ?_
  refine RL.step (Gd.none rfl) rfl rfl ?_
  refine NV.pure T (by conv => lhs; whnf; arg 1; whnf) ?_
  refine RL.step (Gd.none rfl) rfl rfl ?_
  refine NV.pure T (by conv => lhs; whnf; arg 1; whnf) ?_
  refine RL.nil _ _ _ _ ?_
  refine hK3 _ _ _ ?_
  refine SW.cond_f rfl ?_
  refine SW.skip ?_
  refine hK1 _ _ _ ?_
  refine SW.seq_k ?_
  intro K4 hK4
  refine SW.region _ _ _ _ ?_
  refine RL.step (Gd.none rfl) rfl rfl ?_
  refine NV.pure T (rfl : _ = some (Value.agg #[_, _, _, _, _, _, _])) ?_
  refine RL.step (Gd.none rfl) rfl rfl ?_
  refine NV.alloc T rfl rfl rfl (by exact (rfl : _ = [_, _, _, _, _, _, _])) ?_
  intro b7_2
  refine RL.step (Gd.none rfl) rfl rfl ?_
  first
    | refine NV.store_var1 T rfl rfl rfl rfl (by conv => lhs; whnf) rfl (by repeat first | exact At.head _ _ | apply At.tail) rfl (by exact (rfl : _ = [_, _, _, _, _, _, _])) ?_
    | refine NV.store_var T rfl rfl rfl (by exact (rfl : _ = [_, _, _, _, _, _, _])) rfl rfl (by repeat first | exact At.head _ _ | apply At.tail) (Nat.le_of_ble_eq_true rfl) (by exact (rfl : _ = [_, _, _, _, _, _, _])) ?_
    | refine NV.store_elem T rfl rfl rfl rfl (by conv => lhs; whnf) rfl (by repeat first | exact At.head _ _ | apply At.tail) (by omega) ?_
  refine RL.nil _ _ _ _ ?_
  refine hK4 _ _ _ ?_
  refine SW.seq_k ?_
  intro K5 hK5
  refine SW.block ?_
  refine SW.seq_k ?_
  intro K6 hK6
  refine SW.region _ _ _ _ ?_
  refine RL.step (Gd.none rfl) rfl rfl ?_
  refine NV.pure T (by conv => lhs; whnf; arg 1; whnf) ?_
  refine RL.step (Gd.none rfl) rfl rfl ?_
  refine NV.pure T (by conv => lhs; whnf; arg 1; whnf) ?_
  refine RL.step (Gd.none rfl) rfl rfl ?_
  refine NV.pure T (by conv => lhs; whnf; arg 1; whnf) ?_
  refine RL.split 18 rfl (fun hs0 => ?_) (fun hs0 => ?_)
  · try simp only [decide_eq_true_eq, decide_eq_false_iff_not, Bool.not_eq_true', Bool.not_eq_false', Int.not_lt, Int.not_le, Int.toNat_natCast] at hs0
    exfalso; omega
  · try simp only [decide_eq_true_eq, decide_eq_false_iff_not, Bool.not_eq_true', Bool.not_eq_false', Int.not_lt, Int.not_le, Int.toNat_natCast] at hs0
    refine RL.step (Gd.yes rfl rfl) rfl rfl ?_
    refine NV.pure T (by conv => lhs; whnf; arg 1; whnf) ?_
    refine RL.step (Gd.yes rfl rfl) rfl rfl ?_
    refine NV.pure T (by conv => lhs; whnf; arg 1; whnf) ?_
    refine RL.step (Gd.none rfl) rfl rfl ?_
    refine NV.pure T (by conv => lhs; whnf; arg 1; whnf) ?_
    refine RL.step (Gd.none rfl) rfl rfl ?_
    refine NV.pure T (by conv => lhs; whnf; arg 1; whnf) ?_
    refine RL.nil _ _ _ _ ?_
    refine hK6 _ _ _ ?_
    refine SW.cond rfl (fun hc1 => ?_) (fun hc1 => ?_)
    · try simp only [decide_eq_true_eq, decide_eq_false_iff_not, Bool.not_eq_true', Bool.not_eq_false', Int.not_lt, Int.not_le, Int.toNat_natCast] at hc1
      exfalso; omega
    · try simp only [decide_eq_true_eq, decide_eq_false_iff_not, Bool.not_eq_true', Bool.not_eq_false', Int.not_lt, Int.not_le, Int.toNat_natCast] at hc1
      refine SW.seq_k ?_
      intro K7 hK7
      refine SW.region _ _ _ _ ?_
      refine RL.step (Gd.none rfl) rfl rfl ?_
      refine NV.pure T (by conv => lhs; whnf; arg 1; whnf) ?_
      refine RL.step (Gd.none rfl) rfl rfl ?_
      first
        | refine NV.load_var1 T rfl rfl rfl rfl (by repeat first | exact At.head _ _ | apply At.tail) rfl ?_
        | refine NV.load_varN T rfl rfl rfl rfl rfl (by repeat first | exact At.head _ _ | apply At.tail) (by exact (rfl : _ = [_])) rfl ?_
        | refine NV.load_elem T rfl rfl rfl rfl (by assumption) (by first | exact map_get _ _ (by omega) | assumption) ?_
      refine RL.step (Gd.none rfl) rfl rfl ?_
      refine NV.pure T (by conv => lhs; whnf; arg 1; whnf) ?_
      refine RL.split 26 rfl (fun hs1 => ?_) (fun hs1 => ?_)
      · try simp only [decide_eq_true_eq, decide_eq_false_iff_not, Bool.not_eq_true', Bool.not_eq_false', Int.not_lt, Int.not_le, Int.toNat_natCast] at hs1
        refine RL.step (Gd.yes rfl rfl) rfl rfl ?_
        refine NV.pure T (by conv => lhs; whnf; arg 1; whnf) ?_
        refine RL.step (Gd.yes rfl rfl) rfl rfl ?_
        refine NV.pure T (by conv => lhs; whnf; arg 1; whnf) ?_
        refine RL.step (Gd.none rfl) rfl rfl ?_
        refine NV.pure T (by conv => lhs; whnf; arg 1; whnf) ?_
        refine RL.step (Gd.none rfl) rfl rfl ?_
        refine NV.pure T (by conv => lhs; whnf; arg 1; whnf) ?_
        refine RL.nil _ _ _ _ ?_
        refine hK7 _ _ _ ?_
        refine SW.cond_f rfl ?_
        refine SW.seq_k ?_
        intro K8 hK8
        refine SW.region _ _ _ _ ?_
        refine RL.step (Gd.none rfl) rfl rfl ?_
        refine NV.pure T (by conv => lhs; whnf; arg 1; whnf) ?_
        refine RL.step (Gd.none rfl) rfl rfl ?_
        first
          | refine NV.load_var1 T rfl rfl rfl rfl (by repeat first | exact At.head _ _ | apply At.tail) rfl ?_
          | refine NV.load_varN T rfl rfl rfl rfl rfl (by repeat first | exact At.head _ _ | apply At.tail) (by exact (rfl : _ = [_])) rfl ?_
          | refine NV.load_elem T rfl rfl rfl rfl (by assumption) (by first | exact map_get _ _ (by omega) | assumption) ?_
        refine RL.step (Gd.none rfl) rfl rfl ?_
        refine NV.pure T (by conv => lhs; whnf; arg 1; whnf) ?_
        refine RL.nil _ _ _ _ ?_
        refine hK8 _ _ _ ?_
        refine SW.cond rfl (fun hc3 => ?_) (fun hc3 => ?_)
        · try simp only [decide_eq_true_eq, decide_eq_false_iff_not, Bool.not_eq_true', Bool.not_eq_false', Int.not_lt, Int.not_le, Int.toNat_natCast] at hc3
          refine SW.seq_k ?_
          intro K9 hK9
          refine SW.region _ _ _ _ ?_
          refine RL.step (Gd.none rfl) rfl rfl ?_
          first
            | refine NV.load_var1 T rfl rfl rfl rfl (by repeat first | exact At.head _ _ | apply At.tail) rfl ?_
            | refine NV.load_varN T rfl rfl rfl rfl rfl (by repeat first | exact At.head _ _ | apply At.tail) (by exact (rfl : _ = [_, _, _])) rfl ?_
            | refine NV.load_elem T rfl rfl rfl rfl (by assumption) (by first | exact map_get _ _ (by omega) | assumption) ?_
          refine RL.step (Gd.none rfl) rfl rfl ?_
          first
            | refine NV.store_var1 T rfl rfl rfl rfl (by conv => lhs; whnf) rfl (by repeat first | exact At.head _ _ | apply At.tail) rfl (by exact (rfl : _ = [_, _, _])) ?_
            | refine NV.store_var T rfl rfl rfl (by exact (rfl : _ = [_, _, _])) rfl rfl (by repeat first | exact At.head _ _ | apply At.tail) (Nat.le_of_ble_eq_true rfl) (by exact (rfl : _ = [_, _, _])) ?_
            | refine NV.store_elem T rfl rfl rfl rfl (by conv => lhs; whnf) rfl (by repeat first | exact At.head _ _ | apply At.tail) (by omega) ?_
          refine RL.step (Gd.none rfl) rfl rfl ?_
          refine NV.pure T (by conv => lhs; whnf; arg 1; whnf) ?_
          refine RL.nil _ _ _ _ ?_
          refine hK9 _ _ _ ?_
          refine SW.ret ?_
          refine retQ.ret (H' := H) (by first | exact RVs.var1 T rfl rfl rfl (by repeat first | exact At.head _ _ | apply At.tail) rfl (RVs.tmp (by conv => lhs; whnf) RVs.nil) | exact RVs.varN T rfl rfl rfl rfl (by repeat first | exact At.head _ _ | apply At.tail) (by exact (rfl : _ = [_, _, _])) rfl (RVs.tmp (by conv => lhs; whnf) RVs.nil)) (fun w hw => Sat.sub (by repeat first | exact List.Sublist.refl _ | apply List.Sublist.cons_cons | apply List.Sublist.cons) hw) ?_
          clear hK9 K9 hK8 K8 hK7 K7 hK6 K6 hK5 K5 hK4 K4 hK3 K3 hK2 K2 hK1 K1 hK0 K0
          first | exact ⟨rfl, rfl⟩ | (refine ⟨tup2 (agg3 ?_ ?_ ?_), rfl⟩ <;> simp only [tec, rec_] <;> grind)
        · try simp only [decide_eq_true_eq, decide_eq_false_iff_not, Bool.not_eq_true', Bool.not_eq_false', Int.not_lt, Int.not_le, Int.toNat_natCast] at hc3
          exfalso; omega
      · try simp only [decide_eq_true_eq, decide_eq_false_iff_not, Bool.not_eq_true', Bool.not_eq_false', Int.not_lt, Int.not_le, Int.toNat_natCast] at hs1
        refine RL.guard_no rfl rfl rfl ?_
        refine RL.guard_no rfl rfl rfl ?_
        refine RL.step (Gd.none rfl) rfl rfl ?_
        refine NV.pure T (by conv => lhs; whnf; arg 1; whnf) ?_
        refine RL.step (Gd.none rfl) rfl rfl ?_
        refine NV.pure T (by conv => lhs; whnf; arg 1; whnf) ?_
        refine RL.nil _ _ _ _ ?_
        refine hK7 _ _ _ ?_
        refine SW.cond_f rfl ?_
        refine SW.seq_k ?_
        intro K10 hK10
        refine SW.region _ _ _ _ ?_
        refine RL.step (Gd.none rfl) rfl rfl ?_
        refine NV.pure T (by conv => lhs; whnf; arg 1; whnf) ?_
        refine RL.step (Gd.none rfl) rfl rfl ?_
        first
          | refine NV.load_var1 T rfl rfl rfl rfl (by repeat first | exact At.head _ _ | apply At.tail) rfl ?_
          | refine NV.load_varN T rfl rfl rfl rfl rfl (by repeat first | exact At.head _ _ | apply At.tail) (by exact (rfl : _ = [_])) rfl ?_
          | refine NV.load_elem T rfl rfl rfl rfl (by assumption) (by first | exact map_get _ _ (by omega) | assumption) ?_
        refine RL.step (Gd.none rfl) rfl rfl ?_
        refine NV.pure T (by conv => lhs; whnf; arg 1; whnf) ?_
        refine RL.nil _ _ _ _ ?_
        refine hK10 _ _ _ ?_
        refine SW.cond rfl (fun hc4 => ?_) (fun hc4 => ?_)
        · try simp only [decide_eq_true_eq, decide_eq_false_iff_not, Bool.not_eq_true', Bool.not_eq_false', Int.not_lt, Int.not_le, Int.toNat_natCast] at hc4
          exfalso; omega
        · try simp only [decide_eq_true_eq, decide_eq_false_iff_not, Bool.not_eq_true', Bool.not_eq_false', Int.not_lt, Int.not_le, Int.toNat_natCast] at hc4
          refine SW.skip ?_
          refine hK5 _ _ _ ?_
          refine SW.seq_k ?_
          intro K11 hK11
          refine SW.draw [(35, 0), (36, 1), (37, 2), (38, 3), (39, 4), (5, 6)] [[], [0], [1, 0], [], [2, 1, 0, 3], [4, 2, 1, 0, 3], [5, 4, 2, 1, 0, 3]] mixed (by kernel_rfl) (by kernel_rfl) ?_
          refine RD.q rfl rfl (Gd.none rfl) (pev_sound T (by conv => lhs; whnf; arg 1; whnf)) ?_
          refine RD.q rfl rfl (Gd.none rfl) (by first | exact QV.indexAddr_array T rfl rfl rfl rfl rfl (by omega) (by omega) | exact QV.indexAddr_slice T rfl rfl rfl rfl rfl (Rd.some (by assumption) (by omega)) (by omega) (by omega)) ?_
          refine RD.q rfl rfl (Gd.none rfl) (by first | exact QV.load_var1 T rfl rfl rfl rfl (by repeat first | exact At.head _ _ | apply At.tail) rfl | exact QV.load_varN T rfl rfl rfl rfl rfl (by repeat first | exact At.head _ _ | apply At.tail) (by exact (rfl : _ = [_])) rfl | exact QV.load_elem T rfl rfl rfl rfl (by assumption) (by first | exact map_get _ _ (by omega) | assumption)) ?_
          refine RD.q rfl rfl (Gd.none rfl) (by first | exact QV.load_var1 T rfl rfl rfl rfl (by repeat first | exact At.head _ _ | apply At.tail) rfl | exact QV.load_varN T rfl rfl rfl rfl rfl (by repeat first | exact At.head _ _ | apply At.tail) (by exact (rfl : _ = [_, _, _])) rfl | exact QV.load_elem T rfl rfl rfl rfl (by assumption) (by first | exact map_get _ _ (by omega) | assumption)) ?_
          refine RD.nv rfl rfl rfl (Gd.none rfl) ?_
          refine NV.call rfl rfl rfl fun20 rfl rfl (sendError a b (by omega) ha ha2 hb hb2) ?_
          rintro _ _ ⟨rfl, rfl⟩
          refine ⟨Stab.nil, ?_⟩
          refine RD.nv rfl rfl rfl (Gd.none rfl) ?_
          first
            | refine NV.store_var1 T rfl rfl rfl rfl (by conv => lhs; whnf) rfl (by repeat first | exact At.head _ _ | apply At.tail) rfl (by exact (rfl : _ = [_, _, _])) ?_
            | refine NV.store_var T rfl rfl rfl (by exact (rfl : _ = [_, _, _])) rfl rfl (by repeat first | exact At.head _ _ | apply At.tail) (Nat.le_of_ble_eq_true rfl) (by exact (rfl : _ = [_, _, _])) ?_
            | refine NV.store_elem T rfl rfl rfl rfl (by conv => lhs; whnf) rfl (by repeat first | exact At.head _ _ | apply At.tail) (by omega) ?_
          refine ⟨Stab.nil, ?_⟩
          refine RD.q rfl rfl (Gd.none rfl) (pev_sound T (by conv => lhs; whnf; arg 1; whnf)) ?_
          refine RD.k rfl rfl ?_
          refine hK11 _ _ _ ?_
          refine SW.ret ?_
          refine retQ.ret (H' := H) (by first | exact RVs.var1 T rfl rfl rfl (by repeat first | exact At.head _ _ | apply At.tail) rfl (RVs.tmp (by conv => lhs; whnf) RVs.nil) | exact RVs.varN T rfl rfl rfl rfl (by repeat first | exact At.head _ _ | apply At.tail) (by exact (rfl : _ = [_, _, _])) rfl (RVs.tmp (by conv => lhs; whnf) RVs.nil)) (fun w hw => Sat.sub (by repeat first | exact List.Sublist.refl _ | apply List.Sublist.cons_cons | apply List.Sublist.cons) hw) ?_
          clear hK11 K11 hK10 K10 hK7 K7 hK6 K6 hK5 K5 hK4 K4 hK3 K3 hK2 K2 hK1 K1 hK0 K0
          first | exact ⟨rfl, rfl⟩ | (refine ⟨tup2 (agg3 ?_ ?_ ?_), rfl⟩ <;> simp only [tec, rec_] <;> grind)
theorem next_4 {w0 : World} {H : List Chunk} (a b : Int) (ha : 0 ≤ a) (ha2 : a ≤ 263) (hb : 0 ≤ b) (hb2 : b ≤ 255) : SC Try.prog w0 11 #[sv a b, .int .i64 4] H (fun v H' => v = .tuple #[sv (tec a b 4) (rec_ a b 4), .int .i64 0] ∧ H' = H) := by
  refine SC.enter Try.func11 rfl (Nat.le_of_ble_eq_true rfl) ?_
  refine SW.seq_k ?_
  intro K0 hK0
  refine SW.region _ _ _ _ ?_
  refine RL.step (Gd.none rfl) rfl rfl ?_
  refine NV.box rfl (by exact (rfl : _ = [_, _, _])) ?_
  intro b2_0
  refine RL.step (Gd.none rfl) rfl rfl ?_
  refine NV.alloc T rfl rfl rfl (by exact (rfl : _ = [_, _, _])) ?_
  intro b4_1
  refine RL.step (Gd.none rfl) rfl rfl ?_
  refine NV.pure T (by conv => lhs; whnf; arg 1; whnf) ?_
  refine RL.nil _ _ _ _ ?_
  refine hK0 _ _ _ ?_
  refine SW.seq_k ?_
  intro K1 hK1
  refine SW.seq_k ?_
  intro K2 hK2
  refine SW.region _ _ _ _ ?_
  refine RL.step (Gd.none rfl) rfl rfl ?_
  first
    | refine NV.load_var1 T rfl rfl rfl rfl (by repeat first | exact At.head _ _ | apply At.tail) rfl ?_
    | refine NV.load_varN T rfl rfl rfl rfl rfl (by repeat first | exact At.head _ _ | apply At.tail) (by exact (rfl : _ = [_, _, _])) rfl ?_
    | refine NV.load_elem T rfl rfl rfl rfl (by assumption) (by first | exact map_get _ _ (by omega) | assumption) ?_
  refine RL.step (Gd.none rfl) rfl rfl ?_
  refine NV.call rfl rfl rfl fun13 rfl rfl (check_ok a b ha ha2 hb hb2) ?_
  rintro _ _ ⟨rfl, rfl⟩
  refine RL.step (Gd.none rfl) rfl rfl ?_
  refine NV.pure T (by conv => lhs; whnf; arg 1; whnf) ?_
  refine RL.nil _ _ _ _ ?_
  refine hK2 _ _ _ ?_
  refine SW.seq_k ?_
  intro K3 hK3
  refine SW.region _ _ _ _ ?_
  refine RL.step (Gd.none rfl) rfl rfl ?_
  refine NV.pure T (by conv => lhs; whnf; arg 1; whnf) ?_
  refine RL.step (Gd.none rfl) rfl rfl ?_
  refine NV.pure T (by conv => lhs; whnf; arg 1; whnf) ?_
  refine RL.nil _ _ _ _ ?_
  refine hK3 _ _ _ ?_
  refine SW.cond_f rfl ?_
  refine SW.skip ?_
  refine hK1 _ _ _ ?_
  refine SW.seq_k ?_
  intro K4 hK4
  refine SW.region _ _ _ _ ?_
  refine RL.step (Gd.none rfl) rfl rfl ?_
  refine NV.pure T (rfl : _ = some (Value.agg #[_, _, _, _, _, _, _])) ?_
  refine RL.step (Gd.none rfl) rfl rfl ?_
  refine NV.alloc T rfl rfl rfl (by exact (rfl : _ = [_, _, _, _, _, _, _])) ?_
  intro b7_2
  refine RL.step (Gd.none rfl) rfl rfl ?_
  first
    | refine NV.store_var1 T rfl rfl rfl rfl (by conv => lhs; whnf) rfl (by repeat first | exact At.head _ _ | apply At.tail) rfl (by exact (rfl : _ = [_, _, _, _, _, _, _])) ?_
    | refine NV.store_var T rfl rfl rfl (by exact (rfl : _ = [_, _, _, _, _, _, _])) rfl rfl (by repeat first | exact At.head _ _ | apply At.tail) (Nat.le_of_ble_eq_true rfl) (by exact (rfl : _ = [_, _, _, _, _, _, _])) ?_
    | refine NV.store_elem T rfl rfl rfl rfl (by conv => lhs; whnf) rfl (by repeat first | exact At.head _ _ | apply At.tail) (by omega) ?_
  refine RL.nil _ _ _ _ ?_
  refine hK4 _ _ _ ?_
  refine SW.seq_k ?_
  intro K5 hK5
  refine SW.block ?_
  refine SW.seq_k ?_
  intro K6 hK6
  refine SW.region _ _ _ _ ?_
  refine RL.step (Gd.none rfl) rfl rfl ?_
  refine NV.pure T (by conv => lhs; whnf; arg 1; whnf) ?_
  refine RL.step (Gd.none rfl) rfl rfl ?_
  refine NV.pure T (by conv => lhs; whnf; arg 1; whnf) ?_
  refine RL.step (Gd.none rfl) rfl rfl ?_
  refine NV.pure T (by conv => lhs; whnf; arg 1; whnf) ?_
  refine RL.split 18 rfl (fun hs0 => ?_) (fun hs0 => ?_)
  · try simp only [decide_eq_true_eq, decide_eq_false_iff_not, Bool.not_eq_true', Bool.not_eq_false', Int.not_lt, Int.not_le, Int.toNat_natCast] at hs0
    exfalso; omega
  · try simp only [decide_eq_true_eq, decide_eq_false_iff_not, Bool.not_eq_true', Bool.not_eq_false', Int.not_lt, Int.not_le, Int.toNat_natCast] at hs0
    refine RL.step (Gd.yes rfl rfl) rfl rfl ?_
    refine NV.pure T (by conv => lhs; whnf; arg 1; whnf) ?_
    refine RL.step (Gd.yes rfl rfl) rfl rfl ?_
    refine NV.pure T (by conv => lhs; whnf; arg 1; whnf) ?_
    refine RL.step (Gd.none rfl) rfl rfl ?_
    refine NV.pure T (by conv => lhs; whnf; arg 1; whnf) ?_
    refine RL.step (Gd.none rfl) rfl rfl ?_
    refine NV.pure T (by conv => lhs; whnf; arg 1; whnf) ?_
    refine RL.nil _ _ _ _ ?_
    refine hK6 _ _ _ ?_
    refine SW.cond rfl (fun hc1 => ?_) (fun hc1 => ?_)
    · try simp only [decide_eq_true_eq, decide_eq_false_iff_not, Bool.not_eq_true', Bool.not_eq_false', Int.not_lt, Int.not_le, Int.toNat_natCast] at hc1
      exfalso; omega
    · try simp only [decide_eq_true_eq, decide_eq_false_iff_not, Bool.not_eq_true', Bool.not_eq_false', Int.not_lt, Int.not_le, Int.toNat_natCast] at hc1
      refine SW.seq_k ?_
      intro K7 hK7
      refine SW.region _ _ _ _ ?_
      refine RL.step (Gd.none rfl) rfl rfl ?_
      refine NV.pure T (by conv => lhs; whnf; arg 1; whnf) ?_
      refine RL.step (Gd.none rfl) rfl rfl ?_
      first
        | refine NV.load_var1 T rfl rfl rfl rfl (by repeat first | exact At.head _ _ | apply At.tail) rfl ?_
        | refine NV.load_varN T rfl rfl rfl rfl rfl (by repeat first | exact At.head _ _ | apply At.tail) (by exact (rfl : _ = [_])) rfl ?_
        | refine NV.load_elem T rfl rfl rfl rfl (by assumption) (by first | exact map_get _ _ (by omega) | assumption) ?_
      refine RL.step (Gd.none rfl) rfl rfl ?_
      refine NV.pure T (by conv => lhs; whnf; arg 1; whnf) ?_
      refine RL.split 26 rfl (fun hs1 => ?_) (fun hs1 => ?_)
      · try simp only [decide_eq_true_eq, decide_eq_false_iff_not, Bool.not_eq_true', Bool.not_eq_false', Int.not_lt, Int.not_le, Int.toNat_natCast] at hs1
        refine RL.step (Gd.yes rfl rfl) rfl rfl ?_
        refine NV.pure T (by conv => lhs; whnf; arg 1; whnf) ?_
        refine RL.step (Gd.yes rfl rfl) rfl rfl ?_
        refine NV.pure T (by conv => lhs; whnf; arg 1; whnf) ?_
        refine RL.step (Gd.none rfl) rfl rfl ?_
        refine NV.pure T (by conv => lhs; whnf; arg 1; whnf) ?_
        refine RL.step (Gd.none rfl) rfl rfl ?_
        refine NV.pure T (by conv => lhs; whnf; arg 1; whnf) ?_
        refine RL.nil _ _ _ _ ?_
        refine hK7 _ _ _ ?_
        refine SW.cond_f rfl ?_
        refine SW.seq_k ?_
        intro K8 hK8
        refine SW.region _ _ _ _ ?_
        refine RL.step (Gd.none rfl) rfl rfl ?_
        refine NV.pure T (by conv => lhs; whnf; arg 1; whnf) ?_
        refine RL.step (Gd.none rfl) rfl rfl ?_
        first
          | refine NV.load_var1 T rfl rfl rfl rfl (by repeat first | exact At.head _ _ | apply At.tail) rfl ?_
          | refine NV.load_varN T rfl rfl rfl rfl rfl (by repeat first | exact At.head _ _ | apply At.tail) (by exact (rfl : _ = [_])) rfl ?_
          | refine NV.load_elem T rfl rfl rfl rfl (by assumption) (by first | exact map_get _ _ (by omega) | assumption) ?_
        refine RL.step (Gd.none rfl) rfl rfl ?_
        refine NV.pure T (by conv => lhs; whnf; arg 1; whnf) ?_
        refine RL.nil _ _ _ _ ?_
        refine hK8 _ _ _ ?_
        refine SW.cond rfl (fun hc3 => ?_) (fun hc3 => ?_)
        · try simp only [decide_eq_true_eq, decide_eq_false_iff_not, Bool.not_eq_true', Bool.not_eq_false', Int.not_lt, Int.not_le, Int.toNat_natCast] at hc3
          refine SW.seq_k ?_
          intro K9 hK9
          refine SW.region _ _ _ _ ?_
          refine RL.step (Gd.none rfl) rfl rfl ?_
          first
            | refine NV.load_var1 T rfl rfl rfl rfl (by repeat first | exact At.head _ _ | apply At.tail) rfl ?_
            | refine NV.load_varN T rfl rfl rfl rfl rfl (by repeat first | exact At.head _ _ | apply At.tail) (by exact (rfl : _ = [_, _, _])) rfl ?_
            | refine NV.load_elem T rfl rfl rfl rfl (by assumption) (by first | exact map_get _ _ (by omega) | assumption) ?_
          refine RL.step (Gd.none rfl) rfl rfl ?_
          first
            | refine NV.store_var1 T rfl rfl rfl rfl (by conv => lhs; whnf) rfl (by repeat first | exact At.head _ _ | apply At.tail) rfl (by exact (rfl : _ = [_, _, _])) ?_
            | refine NV.store_var T rfl rfl rfl (by exact (rfl : _ = [_, _, _])) rfl rfl (by repeat first | exact At.head _ _ | apply At.tail) (Nat.le_of_ble_eq_true rfl) (by exact (rfl : _ = [_, _, _])) ?_
            | refine NV.store_elem T rfl rfl rfl rfl (by conv => lhs; whnf) rfl (by repeat first | exact At.head _ _ | apply At.tail) (by omega) ?_
          refine RL.step (Gd.none rfl) rfl rfl ?_
          refine NV.pure T (by conv => lhs; whnf; arg 1; whnf) ?_
          refine RL.nil _ _ _ _ ?_
          refine hK9 _ _ _ ?_
          refine SW.ret ?_
          refine retQ.ret (H' := H) (by first | exact RVs.var1 T rfl rfl rfl (by repeat first | exact At.head _ _ | apply At.tail) rfl (RVs.tmp (by conv => lhs; whnf) RVs.nil) | exact RVs.varN T rfl rfl rfl rfl (by repeat first | exact At.head _ _ | apply At.tail) (by exact (rfl : _ = [_, _, _])) rfl (RVs.tmp (by conv => lhs; whnf) RVs.nil)) (fun w hw => Sat.sub (by repeat first | exact List.Sublist.refl _ | apply List.Sublist.cons_cons | apply List.Sublist.cons) hw) ?_
          clear hK9 K9 hK8 K8 hK7 K7 hK6 K6 hK5 K5 hK4 K4 hK3 K3 hK2 K2 hK1 K1 hK0 K0
          first | exact ⟨rfl, rfl⟩ | (refine ⟨tup2 (agg3 ?_ ?_ ?_), rfl⟩ <;> simp only [tec, rec_] <;> grind)
        · try simp only [decide_eq_true_eq, decide_eq_false_iff_not, Bool.not_eq_true', Bool.not_eq_false', Int.not_lt, Int.not_le, Int.toNat_natCast] at hc3
          exfalso; omega
      · try simp only [decide_eq_true_eq, decide_eq_false_iff_not, Bool.not_eq_true', Bool.not_eq_false', Int.not_lt, Int.not_le, Int.toNat_natCast] at hs1
        refine RL.guard_no rfl rfl rfl ?_
        refine RL.guard_no rfl rfl rfl ?_
        refine RL.step (Gd.none rfl) rfl rfl ?_
        refine NV.pure T (by conv => lhs; whnf; arg 1; whnf) ?_
        refine RL.step (Gd.none rfl) rfl rfl ?_
        refine NV.pure T (by conv => lhs; whnf; arg 1; whnf) ?_
        refine RL.nil _ _ _ _ ?_
        refine hK7 _ _ _ ?_
        refine SW.cond_f rfl ?_
        refine SW.seq_k ?_
        intro K10 hK10
        refine SW.region _ _ _ _ ?_
        refine RL.step (Gd.none rfl) rfl rfl ?_
        refine NV.pure T (by conv => lhs; whnf; arg 1; whnf) ?_
        refine RL.step (Gd.none rfl) rfl rfl ?_
        first
          | refine NV.load_var1 T rfl rfl rfl rfl (by repeat first | exact At.head _ _ | apply At.tail) rfl ?_
          | refine NV.load_varN T rfl rfl rfl rfl rfl (by repeat first | exact At.head _ _ | apply At.tail) (by exact (rfl : _ = [_])) rfl ?_
          | refine NV.load_elem T rfl rfl rfl rfl (by assumption) (by first | exact map_get _ _ (by omega) | assumption) ?_
        refine RL.step (Gd.none rfl) rfl rfl ?_
        refine NV.pure T (by conv => lhs; whnf; arg 1; whnf) ?_
        refine RL.nil _ _ _ _ ?_
        refine hK10 _ _ _ ?_
        refine SW.cond rfl (fun hc4 => ?_) (fun hc4 => ?_)
        · try simp only [decide_eq_true_eq, decide_eq_false_iff_not, Bool.not_eq_true', Bool.not_eq_false', Int.not_lt, Int.not_le, Int.toNat_natCast] at hc4
          exfalso; omega
        · try simp only [decide_eq_true_eq, decide_eq_false_iff_not, Bool.not_eq_true', Bool.not_eq_false', Int.not_lt, Int.not_le, Int.toNat_natCast] at hc4
          refine SW.skip ?_
          refine hK5 _ _ _ ?_
          refine SW.seq_k ?_
          intro K11 hK11
          refine SW.draw [(35, 0), (36, 1), (37, 2), (38, 3), (39, 4), (5, 6)] [[], [0], [1, 0], [], [2, 1, 0, 3], [4, 2, 1, 0, 3], [5, 4, 2, 1, 0, 3]] mixed (by kernel_rfl) (by kernel_rfl) ?_
          refine RD.q rfl rfl (Gd.none rfl) (pev_sound T (by conv => lhs; whnf; arg 1; whnf)) ?_
          refine RD.q rfl rfl (Gd.none rfl) (by first | exact QV.indexAddr_array T rfl rfl rfl rfl rfl (by omega) (by omega) | exact QV.indexAddr_slice T rfl rfl rfl rfl rfl (Rd.some (by assumption) (by omega)) (by omega) (by omega)) ?_
          refine RD.q rfl rfl (Gd.none rfl) (by first | exact QV.load_var1 T rfl rfl rfl rfl (by repeat first | exact At.head _ _ | apply At.tail) rfl | exact QV.load_varN T rfl rfl rfl rfl rfl (by repeat first | exact At.head _ _ | apply At.tail) (by exact (rfl : _ = [_])) rfl | exact QV.load_elem T rfl rfl rfl rfl (by assumption) (by first | exact map_get _ _ (by omega) | assumption)) ?_
          refine RD.q rfl rfl (Gd.none rfl) (by first | exact QV.load_var1 T rfl rfl rfl rfl (by repeat first | exact At.head _ _ | apply At.tail) rfl | exact QV.load_varN T rfl rfl rfl rfl rfl (by repeat first | exact At.head _ _ | apply At.tail) (by exact (rfl : _ = [_, _, _])) rfl | exact QV.load_elem T rfl rfl rfl rfl (by assumption) (by first | exact map_get _ _ (by omega) | assumption)) ?_
          refine RD.nv rfl rfl rfl (Gd.none rfl) ?_
          refine NV.call rfl rfl rfl fun21 rfl rfl (getError a b (by omega) ha ha2 hb hb2) ?_
          rintro _ _ ⟨rfl, rfl⟩
          refine ⟨Stab.nil, ?_⟩
          refine RD.nv rfl rfl rfl (Gd.none rfl) ?_
          first
            | refine NV.store_var1 T rfl rfl rfl rfl (by conv => lhs; whnf) rfl (by repeat first | exact At.head _ _ | apply At.tail) rfl (by exact (rfl : _ = [_, _, _])) ?_
            | refine NV.store_var T rfl rfl rfl (by exact (rfl : _ = [_, _, _])) rfl rfl (by repeat first | exact At.head _ _ | apply At.tail) (Nat.le_of_ble_eq_true rfl) (by exact (rfl : _ = [_, _, _])) ?_
            | refine NV.store_elem T rfl rfl rfl rfl (by conv => lhs; whnf) rfl (by repeat first | exact At.head _ _ | apply At.tail) (by omega) ?_
          refine ⟨Stab.nil, ?_⟩
          refine RD.q rfl rfl (Gd.none rfl) (pev_sound T (by conv => lhs; whnf; arg 1; whnf)) ?_
          refine RD.k rfl rfl ?_
          refine hK11 _ _ _ ?_
          refine SW.ret ?_
          refine retQ.ret (H' := H) (by first | exact RVs.var1 T rfl rfl rfl (by repeat first | exact At.head _ _ | apply At.tail) rfl (RVs.tmp (by conv => lhs; whnf) RVs.nil) | exact RVs.varN T rfl rfl rfl rfl (by repeat first | exact At.head _ _ | apply At.tail) (by exact (rfl : _ = [_, _, _])) rfl (RVs.tmp (by conv => lhs; whnf) RVs.nil)) (fun w hw => Sat.sub (by repeat first | exact List.Sublist.refl _ | apply List.Sublist.cons_cons | apply List.Sublist.cons) hw) ?_
          clear hK11 K11 hK10 K10 hK7 K7 hK6 K6 hK5 K5 hK4 K4 hK3 K3 hK2 K2 hK1 K1 hK0 K0
          first | exact ⟨rfl, rfl⟩ | (refine ⟨tup2 (agg3 ?_ ?_ ?_), rfl⟩ <;> simp only [tec, rec_] <;> grind)
theorem next_5 {w0 : World} {H : List Chunk} (a b : Int) (ha : 0 ≤ a) (ha2 : a ≤ 263) (hb : 0 ≤ b) (hb2 : b ≤ 255) : SC Try.prog w0 11 #[sv a b, .int .i64 5] H (fun v H' => v = .tuple #[sv (tec a b 5) (rec_ a b 5), .int .i64 0] ∧ H' = H) := by
  refine SC.enter Try.func11 rfl (Nat.le_of_ble_eq_true rfl) ?_
  refine SW.seq_k ?_
  intro K0 hK0
  refine SW.region _ _ _ _ ?_
  refine RL.step (Gd.none rfl) rfl rfl ?_
  refine NV.box rfl (by exact (rfl : _ = [_, _, _])) ?_
  intro b2_0
  refine RL.step (Gd.none rfl) rfl rfl ?_
  refine NV.alloc T rfl rfl rfl (by exact (rfl : _ = [_, _, _])) ?_
  intro b4_1
  refine RL.step (Gd.none rfl) rfl rfl ?_
  refine NV.pure T (by conv => lhs; whnf; arg 1; whnf) ?_
  refine RL.nil _ _ _ _ ?_
  refine hK0 _ _ _ ?_
  refine SW.seq_k ?_
  intro K1 hK1
  refine SW.seq_k ?_
  intro K2 hK2
  refine SW.region _ _ _ _ ?_
  refine RL.step (Gd.none rfl) rfl rfl ?_
  first
    | refine NV.load_var1 T rfl rfl rfl rfl (by repeat first | exact At.head _ _ | apply At.tail) rfl ?_
    | refine NV.load_varN T rfl rfl rfl rfl rfl (by repeat first | exact At.head _ _ | apply At.tail) (by exact (rfl : _ = [_, _, _])) rfl ?_
    | refine NV.load_elem T rfl rfl rfl rfl (by assumption) (by first | exact map_get _ _ (by omega) | assumption) ?_
  refine RL.step (Gd.none rfl) rfl rfl ?_
  refine NV.call rfl rfl rfl fun13 rfl rfl (check_ok a b ha ha2 hb hb2) ?_
  rintro _ _ ⟨rfl, rfl⟩
  refine RL.step (Gd.none rfl) rfl rfl ?_
  refine NV.pure T (by conv => lhs; whnf; arg 1; whnf) ?_
  refine RL.nil _ _ _ _ ?_
  refine hK2 _ _ _ ?_
  refine SW.seq_k ?_
  intro K3 hK3
  refine SW.region _ _ _ _ ?_
  refine RL.step (Gd.none rfl) rfl rfl ?_
  refine NV.pure T (by conv => lhs; whnf; arg 1; whnf) ?_
  refine RL.step (Gd.none rfl) rfl rfl ?_
  refine NV.pure T (by conv => lhs; whnf; arg 1; whnf) ?_
  refine RL.nil _ _ _ _ ?_
  refine hK3 _ _ _ ?_
  refine SW.cond_f rfl ?_
  refine SW.skip ?_
  refine hK1 _ _ _ ?_
  refine SW.seq_k ?_
  intro K4 hK4
  refine SW.region _ _ _ _ ?_
  refine RL.step (Gd.none rfl) rfl rfl ?_
  refine NV.pure T (rfl : _ = some (Value.agg #[_, _, _, _, _, _, _])) ?_
  refine RL.step (Gd.none rfl) rfl rfl ?_
  refine NV.alloc T rfl rfl rfl (by exact (rfl : _ = [_, _, _, _, _, _, _])) ?_
  intro b7_2
  refine RL.step (Gd.none rfl) rfl rfl ?_
  first
    | refine NV.store_var1 T rfl rfl rfl rfl (by conv => lhs; whnf) rfl (by repeat first | exact At.head _ _ | apply At.tail) rfl (by exact (rfl : _ = [_, _, _, _, _, _, _])) ?_
    | refine NV.store_var T rfl rfl rfl (by exact (rfl : _ = [_, _, _, _, _, _, _])) rfl rfl (by repeat first | exact At.head _ _ | apply At.tail) (Nat.le_of_ble_eq_true rfl) (by exact (rfl : _ = [_, _, _, _, _, _, _])) ?_
    | refine NV.store_elem T rfl rfl rfl rfl (by conv => lhs; whnf) rfl (by repeat first | exact At.head _ _ | apply At.tail) (by omega) ?_
  refine RL.nil _ _ _ _ ?_
  refine hK4 _ _ _ ?_
  refine SW.seq_k ?_
  intro K5 hK5
  refine SW.block ?_
  refine SW.seq_k ?_
  intro K6 hK6
  refine SW.region _ _ _ _ ?_
  refine RL.step (Gd.none rfl) rfl rfl ?_
  refine NV.pure T (by conv => lhs; whnf; arg 1; whnf) ?_
  refine RL.step (Gd.none rfl) rfl rfl ?_
  refine NV.pure T (by conv => lhs; whnf; arg 1; whnf) ?_
  refine RL.step (Gd.none rfl) rfl rfl ?_
  refine NV.pure T (by conv => lhs; whnf; arg 1; whnf) ?_
  refine RL.split 18 rfl (fun hs0 => ?_) (fun hs0 => ?_)
  · try simp only [decide_eq_true_eq, decide_eq_false_iff_not, Bool.not_eq_true', Bool.not_eq_false', Int.not_lt, Int.not_le, Int.toNat_natCast] at hs0
    exfalso; omega
  · try simp only [decide_eq_true_eq, decide_eq_false_iff_not, Bool.not_eq_true', Bool.not_eq_false', Int.not_lt, Int.not_le, Int.toNat_natCast] at hs0
    refine RL.step (Gd.yes rfl rfl) rfl rfl ?_
    refine NV.pure T (by conv => lhs; whnf; arg 1; whnf) ?_
    refine RL.step (Gd.yes rfl rfl) rfl rfl ?_
    refine NV.pure T (by conv => lhs; whnf; arg 1; whnf) ?_
    refine RL.step (Gd.none rfl) rfl rfl ?_
    refine NV.pure T (by conv => lhs; whnf; arg 1; whnf) ?_
    refine RL.step (Gd.none rfl) rfl rfl ?_
    refine NV.pure T (by conv => lhs; whnf; arg 1; whnf) ?_
    refine RL.nil _ _ _ _ ?_
    refine hK6 _ _ _ ?_
    refine SW.cond rfl (fun hc1 => ?_) (fun hc1 => ?_)
    · try simp only [decide_eq_true_eq, decide_eq_false_iff_not, Bool.not_eq_true', Bool.not_eq_false', Int.not_lt, Int.not_le, Int.toNat_natCast] at hc1
      exfalso; omega
    · try simp only [decide_eq_true_eq, decide_eq_false_iff_not, Bool.not_eq_true', Bool.not_eq_false', Int.not_lt, Int.not_le, Int.toNat_natCast] at hc1
      refine SW.seq_k ?_
      intro K7 hK7
      refine SW.region _ _ _ _ ?_
      refine RL.step (Gd.none rfl) rfl rfl ?_
      refine NV.pure T (by conv => lhs; whnf; arg 1; whnf) ?_
      refine RL.step (Gd.none rfl) rfl rfl ?_
      first
        | refine NV.load_var1 T rfl rfl rfl rfl (by repeat first | exact At.head _ _ | apply At.tail) rfl ?_
        | refine NV.load_varN T rfl rfl rfl rfl rfl (by repeat first | exact At.head _ _ | apply At.tail) (by exact (rfl : _ = [_])) rfl ?_
        | refine NV.load_elem T rfl rfl rfl rfl (by assumption) (by first | exact map_get _ _ (by omega) | assumption) ?_
      refine RL.step (Gd.none rfl) rfl rfl ?_
      refine NV.pure T (by conv => lhs; whnf; arg 1; whnf) ?_
      refine RL.split 26 rfl (fun hs1 => ?_) (fun hs1 => ?_)
      · try simp only [decide_eq_true_eq, decide_eq_false_iff_not, Bool.not_eq_true', Bool.not_eq_false', Int.not_lt, Int.not_le, Int.toNat_natCast] at hs1
        refine RL.step (Gd.yes rfl rfl) rfl rfl ?_
        refine NV.pure T (by conv => lhs; whnf; arg 1; whnf) ?_
        refine RL.step (Gd.yes rfl rfl) rfl rfl ?_
        refine NV.pure T (by conv => lhs; whnf; arg 1; whnf) ?_
        refine RL.step (Gd.none rfl) rfl rfl ?_
        refine NV.pure T (by conv => lhs; whnf; arg 1; whnf) ?_
        refine RL.step (Gd.none rfl) rfl rfl ?_
        refine NV.pure T (by conv => lhs; whnf; arg 1; whnf) ?_
        refine RL.nil _ _ _ _ ?_
        refine hK7 _ _ _ ?_
        refine SW.cond_f rfl ?_
        refine SW.seq_k ?_
        intro K8 hK8
        refine SW.region _ _ _ _ ?_
        refine RL.step (Gd.none rfl) rfl rfl ?_
        refine NV.pure T (by conv => lhs; whnf; arg 1; whnf) ?_
        refine RL.step (Gd.none rfl) rfl rfl ?_
        first
          | refine NV.load_var1 T rfl rfl rfl rfl (by repeat first | exact At.head _ _ | apply At.tail) rfl ?_
          | refine NV.load_varN T rfl rfl rfl rfl rfl (by repeat first | exact At.head _ _ | apply At.tail) (by exact (rfl : _ = [_])) rfl ?_
          | refine NV.load_elem T rfl rfl rfl rfl (by assumption) (by first | exact map_get _ _ (by omega) | assumption) ?_
        refine RL.step (Gd.none rfl) rfl rfl ?_
        refine NV.pure T (by conv => lhs; whnf; arg 1; whnf) ?_
        refine RL.nil _ _ _ _ ?_
        refine hK8 _ _ _ ?_
        refine SW.cond rfl (fun hc3 => ?_) (fun hc3 => ?_)
        · try simp only [decide_eq_true_eq, decide_eq_false_iff_not, Bool.not_eq_true', Bool.not_eq_false', Int.not_lt, Int.not_le, Int.toNat_natCast] at hc3
          refine SW.seq_k ?_
          intro K9 hK9
          refine SW.region _ _ _ _ ?_
          refine RL.step (Gd.none rfl) rfl rfl ?_
          first
            | refine NV.load_var1 T rfl rfl rfl rfl (by repeat first | exact At.head _ _ | apply At.tail) rfl ?_
            | refine NV.load_varN T rfl rfl rfl rfl rfl (by repeat first | exact At.head _ _ | apply At.tail) (by exact (rfl : _ = [_, _, _])) rfl ?_
            | refine NV.load_elem T rfl rfl rfl rfl (by assumption) (by first | exact map_get _ _ (by omega) | assumption) ?_
          refine RL.step (Gd.none rfl) rfl rfl ?_
          first
            | refine NV.store_var1 T rfl rfl rfl rfl (by conv => lhs; whnf) rfl (by repeat first | exact At.head _ _ | apply At.tail) rfl (by exact (rfl : _ = [_, _, _])) ?_
            | refine NV.store_var T rfl rfl rfl (by exact (rfl : _ = [_, _, _])) rfl rfl (by repeat first | exact At.head _ _ | apply At.tail) (Nat.le_of_ble_eq_true rfl) (by exact (rfl : _ = [_, _, _])) ?_
            | refine NV.store_elem T rfl rfl rfl rfl (by conv => lhs; whnf) rfl (by repeat first | exact At.head _ _ | apply At.tail) (by omega) ?_
          refine RL.step (Gd.none rfl) rfl rfl ?_
          refine NV.pure T (by conv => lhs; whnf; arg 1; whnf) ?_
          refine RL.nil _ _ _ _ ?_
          refine hK9 _ _ _ ?_
          refine SW.ret ?_
          refine retQ.ret (H' := H) (by first | exact RVs.var1 T rfl rfl rfl (by repeat first | exact At.head _ _ | apply At.tail) rfl (RVs.tmp (by conv => lhs; whnf) RVs.nil) | exact RVs.varN T rfl rfl rfl rfl (by repeat first | exact At.head _ _ | apply At.tail) (by exact (rfl : _ = [_, _, _])) rfl (RVs.tmp (by conv => lhs; whnf) RVs.nil)) (fun w hw => Sat.sub (by repeat first | exact List.Sublist.refl _ | apply List.Sublist.cons_cons | apply List.Sublist.cons) hw) ?_
          clear hK9 K9 hK8 K8 hK7 K7 hK6 K6 hK5 K5 hK4 K4 hK3 K3 hK2 K2 hK1 K1 hK0 K0
          first | exact ⟨rfl, rfl⟩ | (refine ⟨tup2 (agg3 ?_ ?_ ?_), rfl⟩ <;> simp only [tec, rec_] <;> grind)
        · try simp only [decide_eq_true_eq, decide_eq_false_iff_not, Bool.not_eq_true', Bool.not_eq_false', Int.not_lt, Int.not_le, Int.toNat_natCast] at hc3
          exfalso; omega
      · try simp only [decide_eq_true_eq, decide_eq_false_iff_not, Bool.not_eq_true', Bool.not_eq_false', Int.not_lt, Int.not_le, Int.toNat_natCast] at hs1
        refine RL.guard_no rfl rfl rfl ?_
        refine RL.guard_no rfl rfl rfl ?_
        refine RL.step (Gd.none rfl) rfl rfl ?_
        refine NV.pure T (by conv => lhs; whnf; arg 1; whnf) ?_
        refine RL.step (Gd.none rfl) rfl rfl ?_
        refine NV.pure T (by conv => lhs; whnf; arg 1; whnf) ?_
        refine RL.nil _ _ _ _ ?_
        refine hK7 _ _ _ ?_
        refine SW.cond_f rfl ?_
        refine SW.seq_k ?_
        intro K10 hK10
        refine SW.region _ _ _ _ ?_
        refine RL.step (Gd.none rfl) rfl rfl ?_
        refine NV.pure T (by conv => lhs; whnf; arg 1; whnf) ?_
        refine RL.step (Gd.none rfl) rfl rfl ?_
        first
          | refine NV.load_var1 T rfl rfl rfl rfl (by repeat first | exact At.head _ _ | apply At.tail) rfl ?_
          | refine NV.load_varN T rfl rfl rfl rfl rfl (by repeat first | exact At.head _ _ | apply At.tail) (by exact (rfl : _ = [_])) rfl ?_
          | refine NV.load_elem T rfl rfl rfl rfl (by assumption) (by first | exact map_get _ _ (by omega) | assumption) ?_
        refine RL.step (Gd.none rfl) rfl rfl ?_
        refine NV.pure T (by conv => lhs; whnf; arg 1; whnf) ?_
        refine RL.nil _ _ _ _ ?_
        refine hK10 _ _ _ ?_
        refine SW.cond rfl (fun hc4 => ?_) (fun hc4 => ?_)
        · try simp only [decide_eq_true_eq, decide_eq_false_iff_not, Bool.not_eq_true', Bool.not_eq_false', Int.not_lt, Int.not_le, Int.toNat_natCast] at hc4
          exfalso; omega
        · try simp only [decide_eq_true_eq, decide_eq_false_iff_not, Bool.not_eq_true', Bool.not_eq_false', Int.not_lt, Int.not_le, Int.toNat_natCast] at hc4
          refine SW.skip ?_
          refine hK5 _ _ _ ?_
          refine SW.seq_k ?_
          intro K11 hK11
          refine SW.draw [(35, 0), (36, 1), (37, 2), (38, 3), (39, 4), (5, 6)] [[], [0], [1, 0], [], [2, 1, 0, 3], [4, 2, 1, 0, 3], [5, 4, 2, 1, 0, 3]] mixed (by kernel_rfl) (by kernel_rfl) ?_
          refine RD.q rfl rfl (Gd.none rfl) (pev_sound T (by conv => lhs; whnf; arg 1; whnf)) ?_
          refine RD.q rfl rfl (Gd.none rfl) (by first | exact QV.indexAddr_array T rfl rfl rfl rfl rfl (by omega) (by omega) | exact QV.indexAddr_slice T rfl rfl rfl rfl rfl (Rd.some (by assumption) (by omega)) (by omega) (by omega)) ?_
          refine RD.q rfl rfl (Gd.none rfl) (by first | exact QV.load_var1 T rfl rfl rfl rfl (by repeat first | exact At.head _ _ | apply At.tail) rfl | exact QV.load_varN T rfl rfl rfl rfl rfl (by repeat first | exact At.head _ _ | apply At.tail) (by exact (rfl : _ = [_])) rfl | exact QV.load_elem T rfl rfl rfl rfl (by assumption) (by first | exact map_get _ _ (by omega) | assumption)) ?_
          refine RD.q rfl rfl (Gd.none rfl) (by first | exact QV.load_var1 T rfl rfl rfl rfl (by repeat first | exact At.head _ _ | apply At.tail) rfl | exact QV.load_varN T rfl rfl rfl rfl rfl (by repeat first | exact At.head _ _ | apply At.tail) (by exact (rfl : _ = [_, _, _])) rfl | exact QV.load_elem T rfl rfl rfl rfl (by assumption) (by first | exact map_get _ _ (by omega) | assumption)) ?_
          refine RD.nv rfl rfl rfl (Gd.none rfl) ?_
          refine NV.call rfl rfl rfl fun22 rfl rfl (unheard a b (by omega) ha ha2 hb hb2) ?_
          rintro _ _ ⟨rfl, rfl⟩
          refine ⟨Stab.nil, ?_⟩
          refine RD.nv rfl rfl rfl (Gd.none rfl) ?_
          first
            | refine NV.store_var1 T rfl rfl rfl rfl (by conv => lhs; whnf) rfl (by repeat first | exact At.head _ _ | apply At.tail) rfl (by exact (rfl : _ = [_, _, _])) ?_
            | refine NV.store_var T rfl rfl rfl (by exact (rfl : _ = [_, _, _])) rfl rfl (by repeat first | exact At.head _ _ | apply At.tail) (Nat.le_of_ble_eq_true rfl) (by exact (rfl : _ = [_, _, _])) ?_
            | refine NV.store_elem T rfl rfl rfl rfl (by conv => lhs; whnf) rfl (by repeat first | exact At.head _ _ | apply At.tail) (by omega) ?_
          refine ⟨Stab.nil, ?_⟩
          refine RD.q rfl rfl (Gd.none rfl) (pev_sound T (by conv => lhs; whnf; arg 1; whnf)) ?_
          refine RD.k rfl rfl ?_
          refine hK11 _ _ _ ?_
          refine SW.ret ?_
          refine retQ.ret (H' := H) (by first | exact RVs.var1 T rfl rfl rfl (by repeat first | exact At.head _ _ | apply At.tail) rfl (RVs.tmp (by conv => lhs; whnf) RVs.nil) | exact RVs.varN T rfl rfl rfl rfl (by repeat first | exact At.head _ _ | apply At.tail) (by exact (rfl : _ = [_, _, _])) rfl (RVs.tmp (by conv => lhs; whnf) RVs.nil)) (fun w hw => Sat.sub (by repeat first | exact List.Sublist.refl _ | apply List.Sublist.cons_cons | apply List.Sublist.cons) hw) ?_
          clear hK11 K11 hK10 K10 hK7 K7 hK6 K6 hK5 K5 hK4 K4 hK3 K3 hK2 K2 hK1 K1 hK0 K0
          first | exact ⟨rfl, rfl⟩ | (refine ⟨tup2 (agg3 ?_ ?_ ?_), rfl⟩ <;> simp only [tec, rec_] <;> grind)
theorem next_6 {w0 : World} {H : List Chunk} (a b : Int) (ha : 0 ≤ a) (ha2 : a ≤ 263) (hb : 0 ≤ b) (hb2 : b ≤ 255) : SC Try.prog w0 11 #[sv a b, .int .i64 6] H (fun v H' => v = .tuple #[sv (tec a b 6) (rec_ a b 6), .int .i64 0] ∧ H' = H) := by
  refine SC.enter Try.func11 rfl (Nat.le_of_ble_eq_true rfl) ?_
  refine SW.seq_k ?_
  intro K0 hK0
  refine SW.region _ _ _ _ ?_
  refine RL.step (Gd.none rfl) rfl rfl ?_
  refine NV.box rfl (by exact (rfl : _ = [_, _, _])) ?_
  intro b2_0
  refine RL.step (Gd.none rfl) rfl rfl ?_
  refine NV.alloc T rfl rfl rfl (by exact (rfl : _ = [_, _, _])) ?_
  intro b4_1
  refine RL.step (Gd.none rfl) rfl rfl ?_
  refine NV.pure T (by conv => lhs; whnf; arg 1; whnf) ?_
  refine RL.nil _ _ _ _ ?_
  refine hK0 _ _ _ ?_
  refine SW.seq_k ?_
  intro K1 hK1
  refine SW.seq_k ?_
  intro K2 hK2
  refine SW.region _ _ _ _ ?_
  refine RL.step (Gd.none rfl) rfl rfl ?_
  first
    | refine NV.load_var1 T rfl rfl rfl rfl (by repeat first | exact At.head _ _ | apply At.tail) rfl ?_
    | refine NV.load_varN T rfl rfl rfl rfl rfl (by repeat first | exact At.head _ _ | apply At.tail) (by exact (rfl : _ = [_, _, _])) rfl ?_
    | refine NV.load_elem T rfl rfl rfl rfl (by assumption) (by first | exact map_get _ _ (by omega) | assumption) ?_
  refine RL.step (Gd.none rfl) rfl rfl ?_
  refine NV.call rfl rfl rfl fun13 rfl rfl (check_ok a b ha ha2 hb hb2) ?_
  rintro _ _ ⟨rfl, rfl⟩
  refine RL.step (Gd.none rfl) rfl rfl ?_
  refine NV.pure T (by conv => lhs; whnf; arg 1; whnf) ?_
  refine RL.nil _ _ _ _ ?_
  refine hK2 _ _ _ ?_
  refine SW.seq_k ?_
  intro K3 hK3
  refine SW.region _ _ _ _ ?_
  refine RL.step (Gd.none rfl) rfl rfl ?_
  refine NV.pure T (by conv => lhs; whnf; arg 1; whnf) ?_
  refine RL.step (Gd.none rfl) rfl rfl ?_
  refine NV.pure T (by conv => lhs; whnf; arg 1; whnf) ?_
  refine RL.nil _ _ _ _ ?_
  refine hK3 _ _ _ ?_
  refine SW.cond_f rfl ?_
  refine SW.skip ?_
  refine hK1 _ _ _ ?_
  refine SW.seq_k ?_
  intro K4 hK4
  refine SW.region _ _ _ _ ?_
  refine RL.step (Gd.none rfl) rfl rfl ?_
  refine NV.pure T (rfl : _ = some (Value.agg #[_, _, _, _, _, _, _])) ?_
  refine RL.step (Gd.none rfl) rfl rfl ?_
  refine NV.alloc T rfl rfl rfl (by exact (rfl : _ = [_, _, _, _, _, _, _])) ?_
  intro b7_2
  refine RL.step (Gd.none rfl) rfl rfl ?_
  first
    | refine NV.store_var1 T rfl rfl rfl rfl (by conv => lhs; whnf) rfl (by repeat first | exact At.head _ _ | apply At.tail) rfl (by exact (rfl : _ = [_, _, _, _, _, _, _])) ?_
    | refine NV.store_var T rfl rfl rfl (by exact (rfl : _ = [_, _, _, _, _, _, _])) rfl rfl (by repeat first | exact At.head _ _ | apply At.tail) (Nat.le_of_ble_eq_true rfl) (by exact (rfl : _ = [_, _, _, _, _, _, _])) ?_
    | refine NV.store_elem T rfl rfl rfl rfl (by conv => lhs; whnf) rfl (by repeat first | exact At.head _ _ | apply At.tail) (by omega) ?_
  refine RL.nil _ _ _ _ ?_
  refine hK4 _ _ _ ?_
  refine SW.seq_k ?_
  intro K5 hK5
  refine SW.block ?_
  refine SW.seq_k ?_
  intro K6 hK6
  refine SW.region _ _ _ _ ?_
  refine RL.step (Gd.none rfl) rfl rfl ?_
  refine NV.pure T (by conv => lhs; whnf; arg 1; whnf) ?_
  refine RL.step (Gd.none rfl) rfl rfl ?_
  refine NV.pure T (by conv => lhs; whnf; arg 1; whnf) ?_
  refine RL.step (Gd.none rfl) rfl rfl ?_
  refine NV.pure T (by conv => lhs; whnf; arg 1; whnf) ?_
  refine RL.split 18 rfl (fun hs0 => ?_) (fun hs0 => ?_)
  · try simp only [decide_eq_true_eq, decide_eq_false_iff_not, Bool.not_eq_true', Bool.not_eq_false', Int.not_lt, Int.not_le, Int.toNat_natCast] at hs0
    exfalso; omega
  · try simp only [decide_eq_true_eq, decide_eq_false_iff_not, Bool.not_eq_true', Bool.not_eq_false', Int.not_lt, Int.not_le, Int.toNat_natCast] at hs0
    refine RL.step (Gd.yes rfl rfl) rfl rfl ?_
    refine NV.pure T (by conv => lhs; whnf; arg 1; whnf) ?_
    refine RL.step (Gd.yes rfl rfl) rfl rfl ?_
    refine NV.pure T (by conv => lhs; whnf; arg 1; whnf) ?_
    refine RL.step (Gd.none rfl) rfl rfl ?_
    refine NV.pure T (by conv => lhs; whnf; arg 1; whnf) ?_
    refine RL.step (Gd.none rfl) rfl rfl ?_
    refine NV.pure T (by conv => lhs; whnf; arg 1; whnf) ?_
    refine RL.nil _ _ _ _ ?_
    refine hK6 _ _ _ ?_
    refine SW.cond rfl (fun hc1 => ?_) (fun hc1 => ?_)
    · try simp only [decide_eq_true_eq, decide_eq_false_iff_not, Bool.not_eq_true', Bool.not_eq_false', Int.not_lt, Int.not_le, Int.toNat_natCast] at hc1
      exfalso; omega
    · try simp only [decide_eq_true_eq, decide_eq_false_iff_not, Bool.not_eq_true', Bool.not_eq_false', Int.not_lt, Int.not_le, Int.toNat_natCast] at hc1
      refine SW.seq_k ?_
      intro K7 hK7
      refine SW.region _ _ _ _ ?_
      refine RL.step (Gd.none rfl) rfl rfl ?_
      refine NV.pure T (by conv => lhs; whnf; arg 1; whnf) ?_
      refine RL.step (Gd.none rfl) rfl rfl ?_
      first
        | refine NV.load_var1 T rfl rfl rfl rfl (by repeat first | exact At.head _ _ | apply At.tail) rfl ?_
        | refine NV.load_varN T rfl rfl rfl rfl rfl (by repeat first | exact At.head _ _ | apply At.tail) (by exact (rfl : _ = [_])) rfl ?_
        | refine NV.load_elem T rfl rfl rfl rfl (by assumption) (by first | exact map_get _ _ (by omega) | assumption) ?_
      refine RL.step (Gd.none rfl) rfl rfl ?_
      refine NV.pure T (by conv => lhs; whnf; arg 1; whnf) ?_
      refine RL.split 26 rfl (fun hs1 => ?_) (fun hs1 => ?_)
      · try simp only [decide_eq_true_eq, decide_eq_false_iff_not, Bool.not_eq_true', Bool.not_eq_false', Int.not_lt, Int.not_le, Int.toNat_natCast] at hs1
        refine RL.step (Gd.yes rfl rfl) rfl rfl ?_
        refine NV.pure T (by conv => lhs; whnf; arg 1; whnf) ?_
        refine RL.step (Gd.yes rfl rfl) rfl rfl ?_
        refine NV.pure T (by conv => lhs; whnf; arg 1; whnf) ?_
        refine RL.step (Gd.none rfl) rfl rfl ?_
        refine NV.pure T (by conv => lhs; whnf; arg 1; whnf) ?_
        refine RL.step (Gd.none rfl) rfl rfl ?_
        refine NV.pure T (by conv => lhs; whnf; arg 1; whnf) ?_
        refine RL.nil _ _ _ _ ?_
        refine hK7 _ _ _ ?_
        refine SW.cond_t rfl ?_
        refine SW.seq_k ?_
        intro K8 hK8
        refine SW.region _ _ _ _ ?_
        refine RL.step (Gd.none rfl) rfl rfl ?_
        refine NV.pure T (rfl : _ = some (Value.agg #[_, _, _])) ?_
        refine RL.step (Gd.none rfl) rfl rfl ?_
        first
          | refine NV.store_var1 T rfl rfl rfl rfl (by conv => lhs; whnf) rfl (by repeat first | exact At.head _ _ | apply At.tail) rfl (by exact (rfl : _ = [_, _, _])) ?_
          | refine NV.store_var T rfl rfl rfl (by exact (rfl : _ = [_, _, _])) rfl rfl (by repeat first | exact At.head _ _ | apply At.tail) (Nat.le_of_ble_eq_true rfl) (by exact (rfl : _ = [_, _, _])) ?_
          | refine NV.store_elem T rfl rfl rfl rfl (by conv => lhs; whnf) rfl (by repeat first | exact At.head _ _ | apply At.tail) (by omega) ?_
        refine RL.step (Gd.none rfl) rfl rfl ?_
        refine NV.pure T (by conv => lhs; whnf; arg 1; whnf) ?_
        refine RL.nil _ _ _ _ ?_
        refine hK8 _ _ _ ?_
        refine SW.ret ?_
        refine retQ.ret (H' := H) (by first | exact RVs.var1 T rfl rfl rfl (by repeat first | exact At.head _ _ | apply At.tail) rfl (RVs.tmp (by conv => lhs; whnf) RVs.nil) | exact RVs.varN T rfl rfl rfl rfl (by repeat first | exact At.head _ _ | apply At.tail) (by exact (rfl : _ = [_, _, _])) rfl (RVs.tmp (by conv => lhs; whnf) RVs.nil)) (fun w hw => Sat.sub (by repeat first | exact List.Sublist.refl _ | apply List.Sublist.cons_cons | apply List.Sublist.cons) hw) ?_
        clear hK8 K8 hK7 K7 hK6 K6 hK5 K5 hK4 K4 hK3 K3 hK2 K2 hK1 K1 hK0 K0
        first | exact ⟨rfl, rfl⟩ | (refine ⟨tup2 (agg3 ?_ ?_ ?_), rfl⟩ <;> simp only [tec, rec_] <;> grind)
      · try simp only [decide_eq_true_eq, decide_eq_false_iff_not, Bool.not_eq_true', Bool.not_eq_false', Int.not_lt, Int.not_le, Int.toNat_natCast] at hs1
        refine RL.guard_no rfl rfl rfl ?_
        refine RL.guard_no rfl rfl rfl ?_
        refine RL.step (Gd.none rfl) rfl rfl ?_
        refine NV.pure T (by conv => lhs; whnf; arg 1; whnf) ?_
        refine RL.step (Gd.none rfl) rfl rfl ?_
        refine NV.pure T (by conv => lhs; whnf; arg 1; whnf) ?_
        refine RL.nil _ _ _ _ ?_
        refine hK7 _ _ _ ?_
        refine SW.cond_f rfl ?_
        refine SW.seq_k ?_
        intro K9 hK9
        refine SW.region _ _ _ _ ?_
        refine RL.step (Gd.none rfl) rfl rfl ?_
        refine NV.pure T (by conv => lhs; whnf; arg 1; whnf) ?_
        refine RL.step (Gd.none rfl) rfl rfl ?_
        first
          | refine NV.load_var1 T rfl rfl rfl rfl (by repeat first | exact At.head _ _ | apply At.tail) rfl ?_
          | refine NV.load_varN T rfl rfl rfl rfl rfl (by repeat first | exact At.head _ _ | apply At.tail) (by exact (rfl : _ = [_])) rfl ?_
          | refine NV.load_elem T rfl rfl rfl rfl (by assumption) (by first | exact map_get _ _ (by omega) | assumption) ?_
        refine RL.step (Gd.none rfl) rfl rfl ?_
        refine NV.pure T (by conv => lhs; whnf; arg 1; whnf) ?_
        refine RL.nil _ _ _ _ ?_
        refine hK9 _ _ _ ?_
        refine SW.cond rfl (fun hc3 => ?_) (fun hc3 => ?_)
        · try simp only [decide_eq_true_eq, decide_eq_false_iff_not, Bool.not_eq_true', Bool.not_eq_false', Int.not_lt, Int.not_le, Int.toNat_natCast] at hc3
          exfalso; omega
        · try simp only [decide_eq_true_eq, decide_eq_false_iff_not, Bool.not_eq_true', Bool.not_eq_false', Int.not_lt, Int.not_le, Int.toNat_natCast] at hc3
          refine SW.skip ?_
          refine hK5 _ _ _ ?_
          refine SW.seq_k ?_
          intro K10 hK10
          refine SW.draw [(35, 0), (36, 1), (37, 2), (38, 3), (39, 4), (5, 6)] [[], [0], [1, 0], [], [2, 1, 0, 3], [4, 2, 1, 0, 3], [5, 4, 2, 1, 0, 3]] mixed (by kernel_rfl) (by kernel_rfl) ?_
          refine RD.q rfl rfl (Gd.none rfl) (pev_sound T (by conv => lhs; whnf; arg 1; whnf)) ?_
          refine RD.q rfl rfl (Gd.none rfl) (by first | exact QV.indexAddr_array T rfl rfl rfl rfl rfl (by omega) (by omega) | exact QV.indexAddr_slice T rfl rfl rfl rfl rfl (Rd.some (by assumption) (by omega)) (by omega) (by omega)) ?_
          refine RD.q rfl rfl (Gd.none rfl) (by first | exact QV.load_var1 T rfl rfl rfl rfl (by repeat first | exact At.head _ _ | apply At.tail) rfl | exact QV.load_varN T rfl rfl rfl rfl rfl (by repeat first | exact At.head _ _ | apply At.tail) (by exact (rfl : _ = [_])) rfl | exact QV.load_elem T rfl rfl rfl rfl (by assumption) (by first | exact map_get _ _ (by omega) | assumption)) ?_
          refine RD.q rfl rfl (Gd.none rfl) (by first | exact QV.load_var1 T rfl rfl rfl rfl (by repeat first | exact At.head _ _ | apply At.tail) rfl | exact QV.load_varN T rfl rfl rfl rfl rfl (by repeat first | exact At.head _ _ | apply At.tail) (by exact (rfl : _ = [_, _, _])) rfl | exact QV.load_elem T rfl rfl rfl rfl (by assumption) (by first | exact map_get _ _ (by omega) | assumption)) ?_
          refine RD.nv rfl rfl rfl (Gd.none rfl) ?_
          refine NV.call rfl rfl rfl fun23 rfl rfl (same a b (by omega) ha ha2 hb hb2) ?_
          rintro _ _ ⟨rfl, rfl⟩
          refine ⟨Stab.nil, ?_⟩
          refine RD.nv rfl rfl rfl (Gd.none rfl) ?_
          first
            | refine NV.store_var1 T rfl rfl rfl rfl (by conv => lhs; whnf) rfl (by repeat first | exact At.head _ _ | apply At.tail) rfl (by exact (rfl : _ = [_, _, _])) ?_
            | refine NV.store_var T rfl rfl rfl (by exact (rfl : _ = [_, _, _])) rfl rfl (by repeat first | exact At.head _ _ | apply At.tail) (Nat.le_of_ble_eq_true rfl) (by exact (rfl : _ = [_, _, _])) ?_
            | refine NV.store_elem T rfl rfl rfl rfl (by conv => lhs; whnf) rfl (by repeat first | exact At.head _ _ | apply At.tail) (by omega) ?_
          refine ⟨Stab.nil, ?_⟩
          refine RD.q rfl rfl (Gd.none rfl) (pev_sound T (by conv => lhs; whnf; arg 1; whnf)) ?_
          refine RD.k rfl rfl ?_
          refine hK10 _ _ _ ?_
          refine SW.ret ?_
          refine retQ.ret (H' := H) (by first | exact RVs.var1 T rfl rfl rfl (by repeat first | exact At.head _ _ | apply At.tail) rfl (RVs.tmp (by conv => lhs; whnf) RVs.nil) | exact RVs.varN T rfl rfl rfl rfl (by repeat first | exact At.head _ _ | apply At.tail) (by exact (rfl : _ = [_, _, _])) rfl (RVs.tmp (by conv => lhs; whnf) RVs.nil)) (fun w hw => Sat.sub (by repeat first | exact List.Sublist.refl _ | apply List.Sublist.cons_cons | apply List.Sublist.cons) hw) ?_
          clear hK10 K10 hK9 K9 hK7 K7 hK6 K6 hK5 K5 hK4 K4 hK3 K3 hK2 K2 hK1 K1 hK0 K0
          first | exact ⟨rfl, rfl⟩ | (refine ⟨tup2 (agg3 ?_ ?_ ?_), rfl⟩ <;> simp only [tec, rec_] <;> grind)
theorem next_ok {w0 : World} {H : List Chunk} (a b e : Int) (he : 1 ≤ e) (he2 : e ≤ 6) (ha : 0 ≤ a) (ha2 : a ≤ 263) (hb : 0 ≤ b) (hb2 : b ≤ 255) : SC Try.prog w0 11 #[sv a b, .int .i64 e] H (fun v H' => v = .tuple #[sv (tec a b e) (rec_ a b e), .int .i64 0] ∧ H' = H) := by
  rcases (by omega : e = 1 ∨ e = 2 ∨ e = 3 ∨ e = 4 ∨ e = 5 ∨ e = 6) with rfl | rfl | rfl | rfl | rfl | rfl
  · exact next_1 a b ha ha2 hb hb2
  · exact next_2 a b ha ha2 hb hb2
  · exact next_3 a b ha ha2 hb hb2
  · exact next_4 a b ha ha2 hb hb2
  · exact next_5 a b ha ha2 hb hb2
  · exact next_6 a b ha ha2 hb hb2

/-- What a state is behind many things. -/
def aft : Int → Int → List Int → Option (Int × Int)
  | a, b, [] => some (a, b)
  | a, b, e :: es => if 1 ≤ e ∧ e ≤ 6 then aft (tec a b e) (rec_ a b e) es else none
theorem good_tec {a b e : Int} (ha : 0 ≤ a) (ha2 : a ≤ 263) (hb : 0 ≤ b) (hb2 : b ≤ 255) : 0 ≤ tec a b e ∧ tec a b e ≤ 263 ∧ 0 ≤ rec_ a b e ∧ rec_ a b e ≤ 255 := by
  unfold tec rec_; grind
theorem aft_append : ∀ (l m : List Int) (a b : Int), aft a b (l ++ m) = (aft a b l).bind fun p => aft p.1 p.2 m
  | [], m, a, b => rfl
  | e :: l, m, a, b => by
    simp only [List.cons_append, aft]
    split
    · exact aft_append l m _ _
    · rfl
theorem aft_good : ∀ (l : List Int) (a b x y : Int), 0 ≤ a → a ≤ 263 → 0 ≤ b → b ≤ 255 → aft a b l = some (x, y) → 0 ≤ x ∧ x ≤ 263 ∧ 0 ≤ y ∧ y ≤ 255
  | [], a, b, x, y, h1, h2, h3, h4, h => by cases h; exact ⟨h1, h2, h3, h4⟩
  | e :: l, a, b, x, y, h1, h2, h3, h4, h => by
    simp only [aft] at h
    split at h
    · obtain ⟨g1, g2, g3, g4⟩ := good_tec (e := e) h1 h2 h3 h4
      exact aft_good l _ _ x y g1 g2 g3 g4 h
    · cases h
theorem aft_take {a b x y : Int} {es : List Int} {k : Nat} (hk : k < es.length) (h : aft a b (es.take k) = some (x, y)) :
    aft a b (es.take (k + 1)) = if 1 ≤ es.getD k 0 ∧ es.getD k 0 ≤ 6 then some (tec x y (es.getD k 0), rec_ x y (es.getD k 0)) else none := by
  have : es.take (k + 1) = es.take k ++ [es.getD k 0] := by
    rw [List.take_succ_eq_append_getElem hk]; simp [List.getD_eq_getElem?_getD, hk]
  rw [this, aft_append, h]
  rfl
theorem aft_none {a b : Int} {es : List Int} (k : Nat) (h : aft a b (es.take k) = none) : aft a b es = none := by
  have := aft_append (es.take k) (es.drop k) a b
  rw [List.take_append_drop, h] at this
  exact this
def aftV (a b : Int) (es : List Int) : Value := match aft a b es with
  | some (x, y) => .tuple #[sv x y, .int .i64 0]
  | none => .tuple #[.agg #[.int .i64 0, .int .i64 0, .bool false], .int .i64 2]
/-- What the loop of After knows. -/
def AI (a b : Int) (es : List Int) (k : Nat) (x y er : Int) : Prop := k ≤ es.length ∧ ((er = 0 ∧ aft a b (es.take k) = some (x, y) ∧ 0 ≤ x ∧ x ≤ 263 ∧ 0 ≤ y ∧ y ≤ 255) ∨ (er = 2 ∧ x = 0 ∧ y = 0 ∧ aft a b es = none))
theorem after_ok {w0 : World} {H : List Chunk} (a b : Int) (sa : Option Addr) (n c : Nat) (es : List Int) (hR : Rd w0 H sa n c 1 (es.map (.int .i64))) (hn : n = es.length) (hm : n ≤ 140737488351232) (ha : 0 ≤ a) (ha2 : a ≤ 263) (hb : 0 ≤ b) (hb2 : b ≤ 255) : SC Try.prog w0 15 #[sv a b, .slice sa n c] H (fun v H' => v = aftV a b es ∧ H' = H) := by
  refine SC.enter Try.func15 rfl (Nat.le_of_ble_eq_true rfl) ?_
  refine SW.seq_k ?_
  intro K0 hK0
  refine SW.region _ _ _ _ ?_
  refine RL.step (Gd.none rfl) rfl rfl ?_
  refine NV.box rfl (by exact (rfl : _ = [_, _, _])) ?_
  intro b2_0
  refine RL.step (Gd.none rfl) rfl rfl ?_
  refine NV.alloc T rfl rfl rfl (by exact (rfl : _ = [_, _, _])) ?_
  intro b4_1
  refine RL.step (Gd.none rfl) rfl rfl ?_
  refine NV.pure T (by conv => lhs; whnf; arg 1; whnf) ?_
  refine RL.nil _ _ _ _ ?_
  refine hK0 _ _ _ ?_
  refine SW.seq_k ?_
  intro K1 hK1
  refine SW.region _ _ _ _ ?_
  refine RL.step (Gd.none rfl) rfl rfl ?_
  first
    | refine NV.load_var1 T rfl rfl rfl rfl (by repeat first | exact At.head _ _ | apply At.tail) rfl ?_
    | refine NV.load_varN T rfl rfl rfl rfl rfl (by repeat first | exact At.head _ _ | apply At.tail) (by exact (rfl : _ = [_, _, _])) rfl ?_
    | refine NV.load_elem T rfl rfl rfl rfl hR.cons.cons (by first | exact map_get _ _ (by omega) | assumption) ?_
  refine RL.step (Gd.none rfl) rfl rfl ?_
  refine NV.call rfl rfl rfl fun13 rfl rfl (check_ok a b ha ha2 hb hb2) ?_
  rintro _ _ ⟨rfl, rfl⟩
  refine RL.step (Gd.none rfl) rfl rfl ?_
  refine NV.pure T (by conv => lhs; whnf; arg 1; whnf) ?_
  refine RL.nil _ _ _ _ ?_
  refine hK1 _ _ _ ?_
  refine SW.seq_k ?_
  intro K2 hK2
  refine SW.seq_k ?_
  intro K3 hK3
  refine SW.region _ _ _ _ ?_
  refine RL.step (Gd.none rfl) rfl rfl ?_
  refine NV.pure T (by conv => lhs; whnf; arg 1; whnf) ?_
  refine RL.step (Gd.none rfl) rfl rfl ?_
  refine NV.pure T (by conv => lhs; whnf; arg 1; whnf) ?_
  refine RL.step (Gd.none rfl) rfl rfl ?_
  refine NV.pure T (by conv => lhs; whnf; arg 1; whnf) ?_
  refine RL.nil _ _ _ _ ?_
  refine hK3 _ _ _ ?_
  refine SW.block ?_
  refine SW.loop (fun m fr ds HH => ∃ (frU : Fr) (k : Nat) (x y er : Int), m = es.length - k ∧ (AI a b es k x y er) ∧ fr = (upd (upd (upd (upd (upd (upd frU 2 (.pointer (some ⟨b2_0, 0, none⟩))) 4 (.pointer (some ⟨b4_1, 0, none⟩))) 6 ((.int .i64 er))) 11 ((.slice sa n c))) 12 ((.int .i64 n))) 13 ((.int .i64 k))) ∧ ds = [] ∧ HH = (.var b4_1 25 [.int .i64 0, .int .i64 0, .bool false] :: .var b2_0 25 [.int .i64 x, .int .i64 y, .bool (decide (255 < x))] :: H)) (n := es.length - 0) ?_ ?_
  · exact ⟨_, 0, a, b, 0, rfl, ⟨Nat.zero_le _, .inl ⟨rfl, rfl, ha, ha2, hb, hb2⟩⟩, ((@upd_eta _ 2 _ rfl).trans ((@upd_eta _ 4 _ rfl).trans ((@upd_eta _ 6 _ rfl).trans ((@upd_eta _ 11 _ rfl).trans ((@upd_eta _ 12 _ rfl).trans (@upd_eta _ 13 _ rfl)))))), rfl, rfl⟩
  · rintro m fr ds HH ⟨frU, k, x, y, er, rfl, ⟨hk, hI⟩, rfl, rfl, rfl⟩
    rcases hI with ⟨rfl, hI, h1, h2, h3, h4⟩ | ⟨rfl, rfl, rfl, hI⟩
    · skip
      refine SW.seq_k ?_
      intro K4 hK4
      refine SW.region _ _ _ _ ?_
      refine RL.step (Gd.none rfl) rfl rfl ?_
      refine NV.pure T (by conv => lhs; whnf; arg 1; whnf) ?_
      refine RL.nil _ _ _ _ ?_
      refine hK4 _ _ _ ?_
      refine SW.seq_k ?_
      intro K5 hK5
      refine SW.cond rfl (fun hc0 => ?_) (fun hc0 => ?_)
      · try simp only [decide_eq_true_eq, decide_eq_false_iff_not, Bool.not_eq_true', Bool.not_eq_false', Int.not_lt, Int.not_le, Int.toNat_natCast] at hc0
        refine SW.skip ?_
        refine hK5 _ _ _ ?_
        refine SW.seq_k ?_
        intro K6 hK6
        refine SW.block ?_
        refine SW.seq_k ?_
        intro K7 hK7
        refine SW.region _ _ _ _ ?_
        refine RL.step (Gd.none rfl) rfl rfl ?_
        first
          | refine NV.index_array T rfl rfl rfl rfl rfl (by omega) (by omega) ?_
          | refine NV.index_slice T rfl rfl rfl rfl rfl hR.cons.cons (by omega) (by omega) ?_
        refine RL.step (Gd.none rfl) rfl rfl ?_
        first
          | refine NV.load_var1 T rfl rfl rfl rfl (by repeat first | exact At.head _ _ | apply At.tail) rfl ?_
          | refine NV.load_varN T rfl rfl rfl rfl rfl (by repeat first | exact At.head _ _ | apply At.tail) (by exact (rfl : _ = [_])) rfl ?_
          | refine NV.load_elem T rfl rfl rfl rfl hR.cons.cons (by first | exact map_get _ _ (by omega) | assumption) ?_
        refine RL.step (Gd.none rfl) rfl rfl ?_
        refine NV.pure T (by conv => lhs; whnf; arg 1; whnf) ?_
        refine RL.nil _ _ _ _ ?_
        refine hK7 _ _ _ ?_
        refine SW.seq_k ?_
        intro K8 hK8
        refine SW.seq_k ?_
        intro K9 hK9
        refine SW.region _ _ _ _ ?_
        refine RL.step (Gd.none rfl) rfl rfl ?_
        refine NV.pure T (by conv => lhs; whnf; arg 1; whnf) ?_
        refine RL.step (Gd.none rfl) rfl rfl ?_
        refine NV.pure T (by conv => lhs; whnf; arg 1; whnf) ?_
        refine RL.nil _ _ _ _ ?_
        refine hK9 _ _ _ ?_
        refine SW.cond_f rfl ?_
        refine SW.skip ?_
        refine hK8 _ _ _ ?_
        refine SW.region _ _ _ _ ?_
        refine RL.step (Gd.none rfl) rfl rfl ?_
        first
          | refine NV.load_var1 T rfl rfl rfl rfl (by repeat first | exact At.head _ _ | apply At.tail) rfl ?_
          | refine NV.load_varN T rfl rfl rfl rfl rfl (by repeat first | exact At.head _ _ | apply At.tail) (by exact (rfl : _ = [_, _, _])) rfl ?_
          | refine NV.load_elem T rfl rfl rfl rfl hR.cons.cons (by first | exact map_get _ _ (by omega) | assumption) ?_
        refine RL.step (Gd.none rfl) rfl rfl ?_
        refine NV.pure T (by conv => lhs; whnf; arg 1; whnf) ?_
        by_cases he : 1 ≤ es.getD k 0 ∧ es.getD k 0 ≤ 6
        · skip
          refine RL.step (Gd.none rfl) rfl rfl ?_
          refine NV.call rfl rfl rfl fun11 rfl rfl (next_ok x y (es.getD k 0) he.1 he.2 h1 h2 h3 h4) ?_
          rintro _ _ ⟨rfl, rfl⟩
          refine RL.step (Gd.none rfl) rfl rfl ?_
          refine NV.pure T (by conv => lhs; whnf; arg 1; whnf) ?_
          refine RL.step (Gd.none rfl) rfl rfl ?_
          refine NV.pure T (by conv => lhs; whnf; arg 1; whnf) ?_
          refine RL.step (Gd.none rfl) rfl rfl ?_
          refine NV.pure T (by conv => lhs; whnf; arg 1; whnf) ?_
          refine RL.step (Gd.none rfl) rfl rfl ?_
          first
            | refine NV.store_var1 T rfl rfl rfl rfl (by conv => lhs; whnf) rfl (by repeat first | exact At.head _ _ | apply At.tail) rfl (by exact (rfl : _ = [_, _, _])) ?_
            | refine NV.store_var T rfl rfl rfl (by exact (rfl : _ = [_, _, _])) rfl rfl (by repeat first | exact At.head _ _ | apply At.tail) (Nat.le_of_ble_eq_true rfl) (by exact (rfl : _ = [_, _, _])) ?_
            | refine NV.store_elem T rfl rfl rfl rfl (by conv => lhs; whnf) rfl (by repeat first | exact At.head _ _ | apply At.tail) (by omega) ?_
          refine RL.step (Gd.none rfl) rfl rfl ?_
          refine NV.pure T (by conv => lhs; whnf; arg 1; whnf) ?_
          refine RL.nil _ _ _ _ ?_
          refine hK6 _ _ _ ?_
          refine SW.region _ _ _ _ ?_
          refine RL.step (Gd.none rfl) rfl rfl ?_
          first
            | refine NV.arith rfl rfl rfl rfl (by omega) (by omega) ?_
            | refine NV.pure T (by conv => lhs; whnf; arg 1; whnf) ?_
          refine RL.step (Gd.none rfl) rfl rfl ?_
          refine NV.pure T (by conv => lhs; whnf; arg 1; whnf) ?_
          refine RL.nil _ _ _ _ ?_
          exact ⟨es.length - (k + 1), (by omega), _, k + 1, tec x y (es.getD k 0), rec_ x y (es.getD k 0), 0, (by rfl), ⟨by omega, .inl ⟨rfl, by rw [aft_take (by omega) hI, if_pos he], good_tec h1 h2 h3 h4⟩⟩, ((@upd_eta _ 2 _ rfl).trans ((@upd_eta _ 4 _ rfl).trans ((@upd_eta _ 6 _ rfl).trans ((@upd_eta _ 11 _ rfl).trans ((@upd_eta _ 12 _ rfl).trans (@upd_eta _ 13 _ rfl)))))), rfl, rfl⟩
        · skip
          refine RL.step (Gd.none rfl) rfl rfl ?_
          refine NV.call rfl rfl rfl fun11 rfl rfl (next_arg x y (es.getD k 0) (by omega) h1 h2 h3 h4) ?_
          rintro _ _ ⟨rfl, rfl⟩
          refine RL.step (Gd.none rfl) rfl rfl ?_
          refine NV.pure T (by conv => lhs; whnf; arg 1; whnf) ?_
          refine RL.step (Gd.none rfl) rfl rfl ?_
          refine NV.pure T (by conv => lhs; whnf; arg 1; whnf) ?_
          refine RL.step (Gd.none rfl) rfl rfl ?_
          refine NV.pure T (by conv => lhs; whnf; arg 1; whnf) ?_
          refine RL.step (Gd.none rfl) rfl rfl ?_
          first
            | refine NV.store_var1 T rfl rfl rfl rfl (by conv => lhs; whnf) rfl (by repeat first | exact At.head _ _ | apply At.tail) rfl (by exact (rfl : _ = [_, _, _])) ?_
            | refine NV.store_var T rfl rfl rfl (by exact (rfl : _ = [_, _, _])) rfl rfl (by repeat first | exact At.head _ _ | apply At.tail) (Nat.le_of_ble_eq_true rfl) (by exact (rfl : _ = [_, _, _])) ?_
            | refine NV.store_elem T rfl rfl rfl rfl (by conv => lhs; whnf) rfl (by repeat first | exact At.head _ _ | apply At.tail) (by omega) ?_
          refine RL.step (Gd.none rfl) rfl rfl ?_
          refine NV.pure T (by conv => lhs; whnf; arg 1; whnf) ?_
          refine RL.nil _ _ _ _ ?_
          refine hK6 _ _ _ ?_
          refine SW.region _ _ _ _ ?_
          refine RL.step (Gd.none rfl) rfl rfl ?_
          first
            | refine NV.arith rfl rfl rfl rfl (by omega) (by omega) ?_
            | refine NV.pure T (by conv => lhs; whnf; arg 1; whnf) ?_
          refine RL.step (Gd.none rfl) rfl rfl ?_
          refine NV.pure T (by conv => lhs; whnf; arg 1; whnf) ?_
          refine RL.nil _ _ _ _ ?_
          exact ⟨es.length - (k + 1), (by omega), _, k + 1, 0, 0, 2, (by rfl), ⟨by omega, .inr ⟨rfl, rfl, rfl, aft_none (k + 1) (by rw [aft_take (by omega) hI, if_neg he])⟩⟩, ((@upd_eta _ 2 _ rfl).trans ((@upd_eta _ 4 _ rfl).trans ((@upd_eta _ 6 _ rfl).trans ((@upd_eta _ 11 _ rfl).trans ((@upd_eta _ 12 _ rfl).trans (@upd_eta _ 13 _ rfl)))))), rfl, rfl⟩
      · try simp only [decide_eq_true_eq, decide_eq_false_iff_not, Bool.not_eq_true', Bool.not_eq_false', Int.not_lt, Int.not_le, Int.toNat_natCast] at hc0
        refine SW.exit ?_
        refine hK2 _ _ _ ?_
        refine SW.seq_k ?_
        intro K10 hK10
        refine SW.seq_k ?_
        intro K11 hK11
        refine SW.region _ _ _ _ ?_
        refine RL.step (Gd.none rfl) rfl rfl ?_
        refine NV.pure T (by conv => lhs; whnf; arg 1; whnf) ?_
        refine RL.step (Gd.none rfl) rfl rfl ?_
        refine NV.pure T (by conv => lhs; whnf; arg 1; whnf) ?_
        refine RL.nil _ _ _ _ ?_
        refine hK11 _ _ _ ?_
        refine SW.cond_f rfl ?_
        refine SW.skip ?_
        refine hK10 _ _ _ ?_
        refine SW.seq_k ?_
        intro K12 hK12
        refine SW.region _ _ _ _ ?_
        refine RL.step (Gd.none rfl) rfl rfl ?_
        first
          | refine NV.load_var1 T rfl rfl rfl rfl (by repeat first | exact At.head _ _ | apply At.tail) rfl ?_
          | refine NV.load_varN T rfl rfl rfl rfl rfl (by repeat first | exact At.head _ _ | apply At.tail) (by exact (rfl : _ = [_, _, _])) rfl ?_
          | refine NV.load_elem T rfl rfl rfl rfl hR.cons.cons (by first | exact map_get _ _ (by omega) | assumption) ?_
        refine RL.step (Gd.none rfl) rfl rfl ?_
        first
          | refine NV.store_var1 T rfl rfl rfl rfl (by conv => lhs; whnf) rfl (by repeat first | exact At.head _ _ | apply At.tail) rfl (by exact (rfl : _ = [_, _, _])) ?_
          | refine NV.store_var T rfl rfl rfl (by exact (rfl : _ = [_, _, _])) rfl rfl (by repeat first | exact At.head _ _ | apply At.tail) (Nat.le_of_ble_eq_true rfl) (by exact (rfl : _ = [_, _, _])) ?_
          | refine NV.store_elem T rfl rfl rfl rfl (by conv => lhs; whnf) rfl (by repeat first | exact At.head _ _ | apply At.tail) (by omega) ?_
        refine RL.step (Gd.none rfl) rfl rfl ?_
        refine NV.pure T (by conv => lhs; whnf; arg 1; whnf) ?_
        refine RL.nil _ _ _ _ ?_
        refine hK12 _ _ _ ?_
        refine SW.ret ?_
        refine retQ.ret (H' := H) (by first | exact RVs.var1 T rfl rfl rfl (by repeat first | exact At.head _ _ | apply At.tail) rfl (RVs.tmp (by conv => lhs; whnf) RVs.nil) | exact RVs.varN T rfl rfl rfl rfl (by repeat first | exact At.head _ _ | apply At.tail) (by exact (rfl : _ = [_, _, _])) rfl (RVs.tmp (by conv => lhs; whnf) RVs.nil)) (fun w hw => Sat.sub (by repeat first | exact List.Sublist.refl _ | apply List.Sublist.cons_cons | apply List.Sublist.cons) hw) ?_
        clear hK12 K12 hK11 K11 hK10 K10 hK5 K5 hK4 K4 hK3 K3 hK2 K2 hK1 K1 hK0 K0
        first
          | (refine ⟨?_, rfl⟩; unfold aftV; rw [hI]; rfl)
          | (have hk' : k = es.length := by omega
             subst hk'; rw [List.take_length] at hI; refine ⟨?_, rfl⟩; unfold aftV; rw [hI]; rfl)
    · skip
      refine SW.seq_k ?_
      intro K13 hK13
      refine SW.region _ _ _ _ ?_
      refine RL.step (Gd.none rfl) rfl rfl ?_
      refine NV.pure T (by conv => lhs; whnf; arg 1; whnf) ?_
      refine RL.nil _ _ _ _ ?_
      refine hK13 _ _ _ ?_
      refine SW.seq_k ?_
      intro K14 hK14
      refine SW.cond rfl (fun hc3 => ?_) (fun hc3 => ?_)
      · try simp only [decide_eq_true_eq, decide_eq_false_iff_not, Bool.not_eq_true', Bool.not_eq_false', Int.not_lt, Int.not_le, Int.toNat_natCast] at hc3
        refine SW.skip ?_
        refine hK14 _ _ _ ?_
        refine SW.seq_k ?_
        intro K15 hK15
        refine SW.block ?_
        refine SW.seq_k ?_
        intro K16 hK16
        refine SW.region _ _ _ _ ?_
        refine RL.step (Gd.none rfl) rfl rfl ?_
        first
          | refine NV.index_array T rfl rfl rfl rfl rfl (by omega) (by omega) ?_
          | refine NV.index_slice T rfl rfl rfl rfl rfl hR.cons.cons (by omega) (by omega) ?_
        refine RL.step (Gd.none rfl) rfl rfl ?_
        first
          | refine NV.load_var1 T rfl rfl rfl rfl (by repeat first | exact At.head _ _ | apply At.tail) rfl ?_
          | refine NV.load_varN T rfl rfl rfl rfl rfl (by repeat first | exact At.head _ _ | apply At.tail) (by exact (rfl : _ = [_])) rfl ?_
          | refine NV.load_elem T rfl rfl rfl rfl hR.cons.cons (by first | exact map_get _ _ (by omega) | assumption) ?_
        refine RL.step (Gd.none rfl) rfl rfl ?_
        refine NV.pure T (by conv => lhs; whnf; arg 1; whnf) ?_
        refine RL.nil _ _ _ _ ?_
        refine hK16 _ _ _ ?_
        refine SW.seq_k ?_
        intro K17 hK17
        refine SW.seq_k ?_
        intro K18 hK18
        refine SW.region _ _ _ _ ?_
        refine RL.step (Gd.none rfl) rfl rfl ?_
        refine NV.pure T (by conv => lhs; whnf; arg 1; whnf) ?_
        refine RL.step (Gd.none rfl) rfl rfl ?_
        refine NV.pure T (by conv => lhs; whnf; arg 1; whnf) ?_
        refine RL.nil _ _ _ _ ?_
        refine hK18 _ _ _ ?_
        refine SW.cond_t rfl ?_
        refine SW.exit ?_
        refine hK2 _ _ _ ?_
        refine SW.seq_k ?_
        intro K19 hK19
        refine SW.seq_k ?_
        intro K20 hK20
        refine SW.region _ _ _ _ ?_
        refine RL.step (Gd.none rfl) rfl rfl ?_
        refine NV.pure T (by conv => lhs; whnf; arg 1; whnf) ?_
        refine RL.step (Gd.none rfl) rfl rfl ?_
        refine NV.pure T (by conv => lhs; whnf; arg 1; whnf) ?_
        refine RL.nil _ _ _ _ ?_
        refine hK20 _ _ _ ?_
        refine SW.cond_t rfl ?_
        refine SW.seq_k ?_
        intro K21 hK21
        refine SW.region _ _ _ _ ?_
        refine RL.step (Gd.none rfl) rfl rfl ?_
        refine NV.pure T (rfl : _ = some (Value.agg #[_, _, _])) ?_
        refine RL.step (Gd.none rfl) rfl rfl ?_
        refine NV.pure T (by conv => lhs; whnf; arg 1; whnf) ?_
        refine RL.step (Gd.none rfl) rfl rfl ?_
        first
          | refine NV.store_var1 T rfl rfl rfl rfl (by conv => lhs; whnf) rfl (by repeat first | exact At.head _ _ | apply At.tail) rfl (by exact (rfl : _ = [_, _, _])) ?_
          | refine NV.store_var T rfl rfl rfl (by exact (rfl : _ = [_, _, _])) rfl rfl (by repeat first | exact At.head _ _ | apply At.tail) (Nat.le_of_ble_eq_true rfl) (by exact (rfl : _ = [_, _, _])) ?_
          | refine NV.store_elem T rfl rfl rfl rfl (by conv => lhs; whnf) rfl (by repeat first | exact At.head _ _ | apply At.tail) (by omega) ?_
        refine RL.step (Gd.none rfl) rfl rfl ?_
        refine NV.pure T (by conv => lhs; whnf; arg 1; whnf) ?_
        refine RL.nil _ _ _ _ ?_
        refine hK21 _ _ _ ?_
        refine SW.ret ?_
        refine retQ.ret (H' := H) (by first | exact RVs.var1 T rfl rfl rfl (by repeat first | exact At.head _ _ | apply At.tail) rfl (RVs.tmp (by conv => lhs; whnf) RVs.nil) | exact RVs.varN T rfl rfl rfl rfl (by repeat first | exact At.head _ _ | apply At.tail) (by exact (rfl : _ = [_, _, _])) rfl (RVs.tmp (by conv => lhs; whnf) RVs.nil)) (fun w hw => Sat.sub (by repeat first | exact List.Sublist.refl _ | apply List.Sublist.cons_cons | apply List.Sublist.cons) hw) ?_
        clear hK21 K21 hK20 K20 hK19 K19 hK18 K18 hK17 K17 hK16 K16 hK15 K15 hK14 K14 hK13 K13 hK3 K3 hK2 K2 hK1 K1 hK0 K0
        first
          | (refine ⟨?_, rfl⟩; unfold aftV; rw [hI]; rfl)
          | (have hk' : k = es.length := by omega
             subst hk'; rw [List.take_length] at hI; refine ⟨?_, rfl⟩; unfold aftV; rw [hI]; rfl)
      · try simp only [decide_eq_true_eq, decide_eq_false_iff_not, Bool.not_eq_true', Bool.not_eq_false', Int.not_lt, Int.not_le, Int.toNat_natCast] at hc3
        refine SW.exit ?_
        refine hK2 _ _ _ ?_
        refine SW.seq_k ?_
        intro K22 hK22
        refine SW.seq_k ?_
        intro K23 hK23
        refine SW.region _ _ _ _ ?_
        refine RL.step (Gd.none rfl) rfl rfl ?_
        refine NV.pure T (by conv => lhs; whnf; arg 1; whnf) ?_
        refine RL.step (Gd.none rfl) rfl rfl ?_
        refine NV.pure T (by conv => lhs; whnf; arg 1; whnf) ?_
        refine RL.nil _ _ _ _ ?_
        refine hK23 _ _ _ ?_
        refine SW.cond_t rfl ?_
        refine SW.seq_k ?_
        intro K24 hK24
        refine SW.region _ _ _ _ ?_
        refine RL.step (Gd.none rfl) rfl rfl ?_
        refine NV.pure T (rfl : _ = some (Value.agg #[_, _, _])) ?_
        refine RL.step (Gd.none rfl) rfl rfl ?_
        refine NV.pure T (by conv => lhs; whnf; arg 1; whnf) ?_
        refine RL.step (Gd.none rfl) rfl rfl ?_
        first
          | refine NV.store_var1 T rfl rfl rfl rfl (by conv => lhs; whnf) rfl (by repeat first | exact At.head _ _ | apply At.tail) rfl (by exact (rfl : _ = [_, _, _])) ?_
          | refine NV.store_var T rfl rfl rfl (by exact (rfl : _ = [_, _, _])) rfl rfl (by repeat first | exact At.head _ _ | apply At.tail) (Nat.le_of_ble_eq_true rfl) (by exact (rfl : _ = [_, _, _])) ?_
          | refine NV.store_elem T rfl rfl rfl rfl (by conv => lhs; whnf) rfl (by repeat first | exact At.head _ _ | apply At.tail) (by omega) ?_
        refine RL.step (Gd.none rfl) rfl rfl ?_
        refine NV.pure T (by conv => lhs; whnf; arg 1; whnf) ?_
        refine RL.nil _ _ _ _ ?_
        refine hK24 _ _ _ ?_
        refine SW.ret ?_
        refine retQ.ret (H' := H) (by first | exact RVs.var1 T rfl rfl rfl (by repeat first | exact At.head _ _ | apply At.tail) rfl (RVs.tmp (by conv => lhs; whnf) RVs.nil) | exact RVs.varN T rfl rfl rfl rfl (by repeat first | exact At.head _ _ | apply At.tail) (by exact (rfl : _ = [_, _, _])) rfl (RVs.tmp (by conv => lhs; whnf) RVs.nil)) (fun w hw => Sat.sub (by repeat first | exact List.Sublist.refl _ | apply List.Sublist.cons_cons | apply List.Sublist.cons) hw) ?_
        clear hK24 K24 hK23 K23 hK22 K22 hK14 K14 hK13 K13 hK3 K3 hK2 K2 hK1 K1 hK0 K0
        first
          | (refine ⟨?_, rfl⟩; unfold aftV; rw [hI]; rfl)
          | (have hk' : k = es.length := by omega
             subst hk'; rw [List.take_length] at hI; refine ⟨?_, rfl⟩; unfold aftV; rw [hI]; rfl)
theorem aft_some {w0 : World} {H : List Chunk} (a b x y : Int) (sa : Option Addr) (n c : Nat) (es : List Int) (hR : Rd w0 H sa n c 1 (es.map (.int .i64))) (hn : n = es.length) (hm : n ≤ 140737488351232) (ha : 0 ≤ a) (ha2 : a ≤ 263) (hb : 0 ≤ b) (hb2 : b ≤ 255) (h : aft a b es = some (x, y)) :
    SC Try.prog w0 15 #[sv a b, .slice sa n c] H (fun v H' => v = .tuple #[sv x y, .int .i64 0] ∧ H' = H) :=
  (after_ok a b sa n c es hR hn hm ha ha2 hb hb2).mono fun v H' g => by unfold aftV at g; rw [h] at g; exact g
theorem aft_no {w0 : World} {H : List Chunk} (a b : Int) (sa : Option Addr) (n c : Nat) (es : List Int) (hR : Rd w0 H sa n c 1 (es.map (.int .i64))) (hn : n = es.length) (hm : n ≤ 140737488351232) (ha : 0 ≤ a) (ha2 : a ≤ 263) (hb : 0 ≤ b) (hb2 : b ≤ 255) (h : aft a b es = none) :
    SC Try.prog w0 15 #[sv a b, .slice sa n c] H (fun v H' => v = .tuple #[.agg #[.int .i64 0, .int .i64 0, .bool false], .int .i64 2] ∧ H' = H) :=
  (after_ok a b sa n c es hR hn hm ha ha2 hb hb2).mono fun v H' g => by unfold aftV at g; rw [h] at g; exact g

def L32 (k : Nat) : List Int := List.replicate k 3 ++ List.replicate (32 - k) 0
theorem L32_set : ∀ k, k < 32 → (L32 k).set k 3 = L32 (k + 1) := by decide
theorem L32_len (k : Nat) (h : k ≤ 32) : (L32 k).length = 32 := by simp [L32]; omega
theorem L32_step (k : Nat) (h : k < 32) : ((L32 k).map (Value.int .i64)).set k (.int .i64 3) = (L32 (k + 1)).map (Value.int .i64) := by
  rw [← L32_set k h, List.map_set]
theorem aft16 : aft 0 0 (List.replicate 16 3) = some (128, 0) := by decide
theorem aft32 : aft 0 0 (List.replicate 32 3) = some (256, 0) := by decide
theorem alive {w0 : World} {H : List Chunk} : SC Try.prog w0 8 #[] H (fun v H' => v = .bool true ∧ H' = H) := by
  refine SC.enter Try.func8 rfl (Nat.le_of_ble_eq_true rfl) ?_
  refine SW.seq_k ?_
  intro K0 hK0
  refine SW.region _ _ _ _ ?_
  refine RL.step (Gd.none rfl) rfl rfl ?_
  refine NV.pure T (by conv => lhs; whnf; arg 1; whnf) ?_
  refine RL.nil _ _ _ _ ?_
  refine hK0 _ _ _ ?_
  refine SW.seq_k ?_
  intro K1 hK1
  refine SW.region _ _ _ _ ?_
  refine RL.step (Gd.none rfl) rfl rfl ?_
  refine NV.makeSlice (n := 32) (c := 32) T rfl rfl rfl rfl rfl rfl rfl rfl (by omega) (Nat.le_of_ble_eq_true rfl) (Nat.le_of_ble_eq_true rfl) ?_
  intro b9_0
  refine RL.step (Gd.none rfl) rfl rfl ?_
  refine NV.pure T (by conv => lhs; whnf; arg 1; whnf) ?_
  refine RL.nil _ _ _ _ ?_
  refine hK1 _ _ _ ?_
  refine SW.seq_k ?_
  intro K2 hK2
  refine SW.seq_k ?_
  intro K3 hK3
  refine SW.region _ _ _ _ ?_
  refine RL.step (Gd.none rfl) rfl rfl ?_
  refine NV.pure T (by conv => lhs; whnf; arg 1; whnf) ?_
  refine RL.step (Gd.none rfl) rfl rfl ?_
  refine NV.pure T (by conv => lhs; whnf; arg 1; whnf) ?_
  refine RL.step (Gd.none rfl) rfl rfl ?_
  refine NV.pure T (by conv => lhs; whnf; arg 1; whnf) ?_
  refine RL.nil _ _ _ _ ?_
  refine hK3 _ _ _ ?_
  refine SW.block ?_
  refine SW.loop (fun m fr ds HH => ∃ (frU : Fr) (k : Nat), m = 32 - k ∧ (k ≤ 32) ∧ fr = (upd (upd (upd frU 1 (.slice (some ⟨b9_0, 0, none⟩) 32 32)) 11 (.int .i64 32)) 12 (.int .i64 k)) ∧ ds = [] ∧ HH = (.row (some ⟨b9_0, 0, none⟩) 32 32 3 1 ((L32 k).map (Value.int .i64)) :: H)) (n := 32 - 0) ?_ ?_
  · exact ⟨_, 0, rfl, (Nat.zero_le _), ((@upd_eta _ 1 _ rfl).trans ((@upd_eta _ 11 _ rfl).trans (@upd_eta _ 12 _ rfl))), rfl, rfl⟩
  · rintro m fr ds HH ⟨frU, k, rfl, hk, rfl, rfl, rfl⟩
    refine SW.seq_k ?_
    intro K4 hK4
    refine SW.region _ _ _ _ ?_
    refine RL.step (Gd.none rfl) rfl rfl ?_
    refine NV.pure T (by conv => lhs; whnf; arg 1; whnf) ?_
    refine RL.nil _ _ _ _ ?_
    refine hK4 _ _ _ ?_
    refine SW.seq_k ?_
    intro K5 hK5
    refine SW.cond rfl (fun hc0 => ?_) (fun hc0 => ?_)
    · try simp only [decide_eq_true_eq, decide_eq_false_iff_not, Bool.not_eq_true', Bool.not_eq_false', Int.not_lt, Int.not_le, Int.toNat_natCast] at hc0
      refine SW.skip ?_
      refine hK5 _ _ _ ?_
      refine SW.seq_k ?_
      intro K6 hK6
      refine SW.block ?_
      refine SW.seq_k ?_
      intro K7 hK7
      refine SW.region _ _ _ _ ?_
      refine RL.step (Gd.none rfl) rfl rfl ?_
      refine NV.pure T (by conv => lhs; whnf; arg 1; whnf) ?_
      refine RL.step (Gd.none rfl) rfl rfl ?_
      refine NV.pure T (by conv => lhs; whnf; arg 1; whnf) ?_
      refine RL.nil _ _ _ _ ?_
      refine hK7 _ _ _ ?_
      refine SW.region _ _ _ _ ?_
      refine RL.step (Gd.none rfl) rfl rfl ?_
      refine NV.pure T (by conv => lhs; whnf; arg 1; whnf) ?_
      refine RL.step (Gd.none rfl) rfl rfl ?_
      refine NV.pure T (by conv => lhs; whnf; arg 1; whnf) ?_
      refine RL.step (Gd.none rfl) rfl rfl ?_
      refine NV.sat (fun hs => ?_) (fun c hc => by cases hc)
      first
        | refine NV.index_array T rfl rfl rfl rfl rfl (by omega) (by omega) ?_
        | refine NV.index_slice T rfl rfl rfl rfl rfl (Rd.row (At.head _ _) hs) (by omega) (by omega) ?_
      refine RL.step (Gd.none rfl) rfl rfl ?_
      first
        | refine NV.store_var1 T rfl rfl rfl rfl (by conv => lhs; whnf) rfl (by repeat first | exact At.head _ _ | apply At.tail) rfl rfl ?_
        | refine NV.store_var T rfl rfl rfl (by exact (rfl : _ = [_])) rfl rfl (by repeat first | exact At.head _ _ | apply At.tail) (Nat.le_of_ble_eq_true rfl) rfl ?_
        | refine NV.store_elem T rfl rfl rfl rfl (by conv => lhs; whnf) rfl (by repeat first | exact At.head _ _ | apply At.tail) (by rw [List.length_map, L32_len _ hk]; omega) ?_
      refine RL.nil _ _ _ _ ?_
      refine hK6 _ _ _ ?_
      refine SW.region _ _ _ _ ?_
      refine RL.step (Gd.none rfl) rfl rfl ?_
      first
        | refine NV.arith rfl rfl rfl rfl (by omega) (by omega) ?_
        | refine NV.pure T (by conv => lhs; whnf; arg 1; whnf) ?_
      refine RL.step (Gd.none rfl) rfl rfl ?_
      refine NV.pure T (by conv => lhs; whnf; arg 1; whnf) ?_
      refine RL.nil _ _ _ _ ?_
      exact ⟨32 - (k + 1), (by omega), _, k + 1, (by rfl), (by omega), ((@upd_eta _ 1 _ rfl).trans ((@upd_eta _ 11 _ rfl).trans (@upd_eta _ 12 _ rfl))), rfl, (by rw [← L32_step k (by omega)]; rfl)⟩
    · try simp only [decide_eq_true_eq, decide_eq_false_iff_not, Bool.not_eq_true', Bool.not_eq_false', Int.not_lt, Int.not_le, Int.toNat_natCast] at hc0
      obtain rfl : k = 32 := by omega
      refine SW.exit ?_
      refine hK2 _ _ _ ?_
      refine SW.seq_k ?_
      intro K8 hK8
      refine SW.region _ _ _ _ ?_
      refine RL.step (Gd.none rfl) rfl rfl ?_
      refine NV.pure T (rfl : _ = some (Value.agg #[_, _, _])) ?_
      refine RL.step (Gd.none rfl) rfl rfl ?_
      refine NV.pure T (by conv => lhs; whnf; arg 1; whnf) ?_
      refine RL.step (Gd.none rfl) rfl rfl ?_
      refine NV.slice (l := 0) (h := 16) T rfl rfl rfl rfl rfl ⟨_, rfl⟩ (by omega) (by omega) ?_
      refine RL.step (Gd.none rfl) rfl rfl ?_
      refine NV.sat (fun hs => ?_) (fun c hc => by cases hc)
      refine NV.call rfl rfl rfl fun15 rfl rfl ((after_ok 0 0 _ _ _ (List.replicate 16 3) (by have h := (Rd.row (At.head _ _) hs).sub (l := 0) (h := 16) (by omega) (by omega); exact h) rfl (by decide) (by omega) (by omega) (by omega) (by omega)).mono (fun v H' h => by rw [aftV, aft16] at h; exact h)) ?_
      rintro _ _ ⟨rfl, rfl⟩
      refine RL.step (Gd.none rfl) rfl rfl ?_
      refine NV.pure T (by conv => lhs; whnf; arg 1; whnf) ?_
      refine RL.step (Gd.none rfl) rfl rfl ?_
      refine NV.pure T (by conv => lhs; whnf; arg 1; whnf) ?_
      refine RL.step (Gd.none rfl) rfl rfl ?_
      refine NV.pure T (by conv => lhs; whnf; arg 1; whnf) ?_
      refine RL.step (Gd.none rfl) rfl rfl ?_
      refine NV.alloc T rfl rfl rfl (by exact (rfl : _ = [_, _, _])) ?_
      intro b3_1
      refine RL.step (Gd.none rfl) rfl rfl ?_
      first
        | refine NV.store_var1 T rfl rfl rfl rfl (by conv => lhs; whnf) rfl (by repeat first | exact At.head _ _ | apply At.tail) rfl (by exact (rfl : _ = [_, _, _])) ?_
        | refine NV.store_var T rfl rfl rfl (by exact (rfl : _ = [_, _, _])) rfl rfl (by repeat first | exact At.head _ _ | apply At.tail) (Nat.le_of_ble_eq_true rfl) (by exact (rfl : _ = [_, _, _])) ?_
        | refine NV.store_elem T rfl rfl rfl rfl (by conv => lhs; whnf) rfl (by repeat first | exact At.head _ _ | apply At.tail) (by rw [List.length_map, L32_len _ hk]; omega) ?_
      refine RL.step (Gd.none rfl) rfl rfl ?_
      refine NV.pure T (by conv => lhs; whnf; arg 1; whnf) ?_
      refine RL.nil _ _ _ _ ?_
      refine hK8 _ _ _ ?_
      refine SW.seq_k ?_
      intro K9 hK9
      refine SW.region _ _ _ _ ?_
      refine RL.step (Gd.none rfl) rfl rfl ?_
      refine NV.pure T (rfl : _ = some (Value.agg #[_, _, _])) ?_
      refine RL.step (Gd.none rfl) rfl rfl ?_
      refine NV.pure T (by conv => lhs; whnf; arg 1; whnf) ?_
      refine RL.step (Gd.none rfl) rfl rfl ?_
      refine NV.sat (fun hs => ?_) (fun c hc => by cases hc)
      refine NV.call rfl rfl rfl fun15 rfl rfl ((after_ok 0 0 _ _ _ (List.replicate 32 3) (by have h := (Rd.row (At.tail (At.head _ _)) hs); exact h) rfl (by decide) (by omega) (by omega) (by omega) (by omega)).mono (fun v H' h => by rw [aftV, aft32] at h; exact h)) ?_
      rintro _ _ ⟨rfl, rfl⟩
      refine RL.step (Gd.none rfl) rfl rfl ?_
      refine NV.pure T (by conv => lhs; whnf; arg 1; whnf) ?_
      refine RL.step (Gd.none rfl) rfl rfl ?_
      refine NV.pure T (by conv => lhs; whnf; arg 1; whnf) ?_
      refine RL.step (Gd.none rfl) rfl rfl ?_
      refine NV.pure T (by conv => lhs; whnf; arg 1; whnf) ?_
      refine RL.step (Gd.none rfl) rfl rfl ?_
      refine NV.alloc T rfl rfl rfl (by exact (rfl : _ = [_, _, _])) ?_
      intro b5_2
      refine RL.step (Gd.none rfl) rfl rfl ?_
      first
        | refine NV.store_var1 T rfl rfl rfl rfl (by conv => lhs; whnf) rfl (by repeat first | exact At.head _ _ | apply At.tail) rfl (by exact (rfl : _ = [_, _, _])) ?_
        | refine NV.store_var T rfl rfl rfl (by exact (rfl : _ = [_, _, _])) rfl rfl (by repeat first | exact At.head _ _ | apply At.tail) (Nat.le_of_ble_eq_true rfl) (by exact (rfl : _ = [_, _, _])) ?_
        | refine NV.store_elem T rfl rfl rfl rfl (by conv => lhs; whnf) rfl (by repeat first | exact At.head _ _ | apply At.tail) (by rw [List.length_map, L32_len _ hk]; omega) ?_
      refine RL.step (Gd.none rfl) rfl rfl ?_
      refine NV.pure T (by conv => lhs; whnf; arg 1; whnf) ?_
      refine RL.nil _ _ _ _ ?_
      refine hK9 _ _ _ ?_
      refine SW.seq_k ?_
      intro K10 hK10
      refine SW.region _ _ _ _ ?_
      refine RL.step (Gd.none rfl) rfl rfl ?_
      refine NV.sat (fun hs => ?_) (fun c hc => by cases hc)
      first
        | refine NV.load_var1 T rfl rfl rfl rfl (by repeat first | exact At.head _ _ | apply At.tail) rfl ?_
        | refine NV.load_varN T rfl rfl rfl rfl rfl (by repeat first | exact At.head _ _ | apply At.tail) (by exact (rfl : _ = [_, _, _])) rfl ?_
        | refine NV.load_elem T rfl rfl rfl rfl (Rd.row (At.head _ _) hs) (by first | exact map_get _ _ (by omega) | assumption) ?_
      refine RL.step (Gd.none rfl) rfl rfl ?_
      refine NV.call rfl rfl rfl fun9 rfl rfl (pmode_ok 128 0 (by omega) (by omega) (by omega) (by omega)) ?_
      rintro _ _ ⟨rfl, rfl⟩
      refine RL.step (Gd.none rfl) rfl rfl ?_
      refine NV.pure T (by conv => lhs; whnf; arg 1; whnf) ?_
      refine RL.step (Gd.none rfl) rfl rfl ?_
      refine NV.pure T (by conv => lhs; whnf; arg 1; whnf) ?_
      refine RL.step (Gd.none rfl) rfl rfl ?_
      refine NV.pure T (by conv => lhs; whnf; arg 1; whnf) ?_
      refine RL.step (Gd.none rfl) rfl rfl ?_
      refine NV.pure T (by conv => lhs; whnf; arg 1; whnf) ?_
      refine RL.step (Gd.none rfl) rfl rfl ?_
      refine NV.pure T (by conv => lhs; whnf; arg 1; whnf) ?_
      refine RL.nil _ _ _ _ ?_
      refine hK10 _ _ _ ?_
      refine SW.seq_k ?_
      intro K11 hK11
      refine SW.region _ _ _ _ ?_
      refine RL.step (Gd.none rfl) rfl rfl ?_
      refine NV.pure T (by conv => lhs; whnf; arg 1; whnf) ?_
      refine RL.step (Gd.none rfl) rfl rfl ?_
      refine NV.sat (fun hs => ?_) (fun c hc => by cases hc)
      first
        | refine NV.load_var1 T rfl rfl rfl rfl (by repeat first | exact At.head _ _ | apply At.tail) rfl ?_
        | refine NV.load_varN T rfl rfl rfl rfl rfl (by repeat first | exact At.head _ _ | apply At.tail) (by exact (rfl : _ = [_])) rfl ?_
        | refine NV.load_elem T rfl rfl rfl rfl (Rd.row (At.head _ _) hs) (by first | exact map_get _ _ (by omega) | assumption) ?_
      refine RL.step (Gd.none rfl) rfl rfl ?_
      first
        | refine NV.eqT rfl rfl rfl (by decide) ?_
        | refine QV.nv _ _ _ (fun c hc => by cases hc) (QV.as (v' := .bool true) (QV.eqd T PL rfl rfl rfl Try.eqGuardType3 rfl) (by simp)) ?_
      refine RL.step (Gd.none rfl) rfl rfl ?_
      refine NV.pure T (by conv => lhs; whnf; arg 1; whnf) ?_
      refine RL.step (Gd.yes rfl rfl) rfl rfl ?_
      refine NV.pure T (by conv => lhs; whnf; arg 1; whnf) ?_
      refine RL.step (Gd.yes rfl rfl) rfl rfl ?_
      first
        | refine NV.eqT rfl rfl rfl (by decide) ?_
        | refine QV.nv _ _ _ (fun c hc => by cases hc) (QV.as (v' := .bool true) (QV.eqd T PL rfl rfl rfl Try.eqGuardType3 rfl) (by simp)) ?_
      refine RL.step (Gd.none rfl) rfl rfl ?_
      refine NV.pure T (by conv => lhs; whnf; arg 1; whnf) ?_
      refine RL.step (Gd.none rfl) rfl rfl ?_
      refine NV.pure T (by conv => lhs; whnf; arg 1; whnf) ?_
      refine RL.step (Gd.yes rfl rfl) rfl rfl ?_
      refine NV.pure T (by conv => lhs; whnf; arg 1; whnf) ?_
      refine RL.step (Gd.yes rfl rfl) rfl rfl ?_
      refine NV.sat (fun hs => ?_) (fun c hc => by cases hc)
      first
        | refine NV.load_var1 T rfl rfl rfl rfl (by repeat first | exact At.head _ _ | apply At.tail) rfl ?_
        | refine NV.load_varN T rfl rfl rfl rfl rfl (by repeat first | exact At.head _ _ | apply At.tail) (by exact (rfl : _ = [_])) rfl ?_
        | refine NV.load_elem T rfl rfl rfl rfl (Rd.row (At.head _ _) hs) (by first | exact map_get _ _ (by omega) | assumption) ?_
      refine RL.step (Gd.none rfl) rfl rfl ?_
      refine NV.pure T (by conv => lhs; whnf; arg 1; whnf) ?_
      refine RL.step (Gd.none rfl) rfl rfl ?_
      refine NV.pure T (by conv => lhs; whnf; arg 1; whnf) ?_
      refine RL.split 48 rfl (fun hs0 => ?_) (fun hs0 => ?_)
      · try simp only [decide_eq_true_eq, decide_eq_false_iff_not, Bool.not_eq_true', Bool.not_eq_false', Int.not_lt, Int.not_le, Int.toNat_natCast] at hs0
        refine RL.step (Gd.yes rfl rfl) rfl rfl ?_
        refine NV.pure T (by conv => lhs; whnf; arg 1; whnf) ?_
        refine RL.step (Gd.yes rfl rfl) rfl rfl ?_
        first
          | refine NV.eqT rfl rfl rfl (by decide) ?_
          | refine QV.nv _ _ _ (fun c hc => by cases hc) (QV.as (v' := .bool true) (QV.eqd T PL rfl rfl rfl Try.eqGuardType26 rfl) (by simp)) ?_
        refine RL.step (Gd.none rfl) rfl rfl ?_
        refine NV.pure T (by conv => lhs; whnf; arg 1; whnf) ?_
        refine RL.step (Gd.none rfl) rfl rfl ?_
        refine NV.pure T (by conv => lhs; whnf; arg 1; whnf) ?_
        refine RL.step (Gd.yes rfl rfl) rfl rfl ?_
        refine NV.pure T (by conv => lhs; whnf; arg 1; whnf) ?_
        refine RL.step (Gd.yes rfl rfl) rfl rfl ?_
        first
          | refine NV.eqT rfl rfl rfl (by decide) ?_
          | refine QV.nv _ _ _ (fun c hc => by cases hc) (QV.as (v' := .bool true) (QV.eqd T PL rfl rfl rfl Try.eqGuardType26 rfl) (by simp)) ?_
        refine RL.step (Gd.none rfl) rfl rfl ?_
        refine NV.pure T (by conv => lhs; whnf; arg 1; whnf) ?_
        refine RL.step (Gd.none rfl) rfl rfl ?_
        refine NV.pure T (by conv => lhs; whnf; arg 1; whnf) ?_
        refine RL.step (Gd.yes rfl rfl) rfl rfl ?_
        refine NV.pure T (by conv => lhs; whnf; arg 1; whnf) ?_
        refine RL.step (Gd.yes rfl rfl) rfl rfl ?_
        first
          | refine NV.eqT rfl rfl rfl (by decide) ?_
          | refine QV.nv _ _ _ (fun c hc => by cases hc) (QV.as (v' := .bool true) (QV.eqd T PL rfl rfl rfl Try.eqGuardType26 rfl) (by simp)) ?_
        refine RL.step (Gd.none rfl) rfl rfl ?_
        refine NV.pure T (by conv => lhs; whnf; arg 1; whnf) ?_
        refine RL.step (Gd.none rfl) rfl rfl ?_
        refine NV.pure T (by conv => lhs; whnf; arg 1; whnf) ?_
        refine RL.nil _ _ _ _ ?_
        refine hK11 _ _ _ ?_
        refine SW.ret ?_
        refine retQ.ret (H' := H) (RVs.tmp (by conv => lhs; whnf) RVs.nil) (fun w hw => Sat.sub (by repeat first | exact List.Sublist.refl _ | apply List.Sublist.cons_cons | apply List.Sublist.cons) hw) ?_
        clear hK11 K11 hK10 K10 hK9 K9 hK8 K8 hK5 K5 hK4 K4 hK3 K3 hK2 K2 hK1 K1 hK0 K0
        exact ⟨rfl, rfl⟩
      · try simp only [decide_eq_true_eq, decide_eq_false_iff_not, Bool.not_eq_true', Bool.not_eq_false', Int.not_lt, Int.not_le, Int.toNat_natCast] at hs0
        exfalso; omega

def PL : Pl Try.prog where
  is t := Nat.beq t 23 || Nat.beq t 25
  h t ht := by
    rw [Bool.or_eq_true] at ht
    rcases ht with ht | ht
    · obtain rfl := Nat.eq_of_beq_eq_true ht
      refine ⟨Try.stoodInHeld23, Try.eqGuardType23, fun fs hfs f hf => ?_⟩
      rw [Try.underlying23] at hfs
      cases hfs
      revert f; decide
    · obtain rfl := Nat.eq_of_beq_eq_true ht
      refine ⟨Try.stoodInHeld25, Try.eqGuardType25, fun fs hfs f hf => ?_⟩
      rw [Try.underlying25] at hfs
      cases hfs
      revert f; decide
theorem okS_true {a b : Int} {c : Bool} (h : okS a b c = true) : 0 ≤ a ∧ a ≤ 263 ∧ 0 ≤ b ∧ b ≤ 255 ∧ c = decide (255 < a) := by
  simp only [okS, Bool.and_eq_true, decide_eq_true_eq, beq_iff_eq] at h
  exact ⟨h.1.1.1.1, h.1.1.1.2, h.1.1.2, h.1.2, h.2⟩
end Go.Proofs.Ytnlifdnfkmlfbaa.M
