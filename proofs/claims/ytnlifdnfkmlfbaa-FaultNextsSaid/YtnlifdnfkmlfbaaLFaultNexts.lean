import Derived.Test.YtnlifdnfkmlfbaaFB
set_option linter.unusedVariables false
set_option linter.unusedSimpArgs false
namespace Go.Proofs.Ytnlifdnfkmlfbaa.M
open Go Go.Sep Go.Proofs
set_option maxRecDepth 10000
theorem nexts_ok {w0 : World} {H : List Chunk} (a b e : Int) (he : 1 ≤ e) (he2 : e ≤ 6) (ha : 0 ≤ a) (ha2 : a ≤ 263) (hb : 0 ≤ b) (hb2 : b ≤ 255) : SC Try.prog w0 3 #[sv a b, .int .i64 e] H (fun v H' => v = .bool true ∧ H' = H) := by
  refine SC.enter Try.func3 rfl (Nat.le_of_ble_eq_true rfl) ?_
  refine SW.seq_k ?_
  intro K0 hK0
  refine SW.region _ _ _ _ ?_
  refine RL.step (Gd.none rfl) rfl rfl ?_
  refine NV.box rfl (by exact (rfl : _ = [_, _, _])) ?_
  intro b2_0
  refine RL.step (Gd.none rfl) rfl rfl ?_
  refine NV.pure T (by conv => lhs; whnf; arg 1; whnf) ?_
  refine RL.nil _ _ _ _ ?_
  refine hK0 _ _ _ ?_
  refine SW.seq_k ?_
  intro K1 hK1
  refine SW.seq_k ?_
  intro K2 hK2
  refine SW.region _ _ _ _ ?_
  refine RL.step (Gd.none rfl) rfl rfl ?_
  refine NV.call rfl rfl rfl fun8 rfl rfl (alive) ?_
  rintro _ _ ⟨rfl, rfl⟩
  refine RL.step (Gd.none rfl) rfl rfl ?_
  refine NV.pure T (by conv => lhs; whnf; arg 1; whnf) ?_
  refine RL.nil _ _ _ _ ?_
  refine hK2 _ _ _ ?_
  refine SW.cond_f rfl ?_
  refine SW.skip ?_
  refine hK1 _ _ _ ?_
  refine SW.seq_k ?_
  intro K3 hK3
  refine SW.region _ _ _ _ ?_
  refine RL.step (Gd.none rfl) rfl rfl ?_
  first
    | refine NV.load_var1 T rfl rfl rfl rfl (by repeat first | exact At.head _ _ | apply At.tail) rfl ?_
    | refine NV.load_varN T rfl rfl rfl rfl rfl (by repeat first | exact At.head _ _ | apply At.tail) (by exact (rfl : _ = [_, _, _])) rfl ?_
    | refine NV.load_elem T rfl rfl rfl rfl (by assumption) (by first | exact map_get _ _ (by omega) | assumption) ?_
  refine RL.step (Gd.none rfl) rfl rfl ?_
  refine NV.alloc T rfl rfl rfl (by exact (rfl : _ = [_, _, _])) ?_
  intro b5_1
  refine RL.step (Gd.none rfl) rfl rfl ?_
  first
    | refine NV.store_var1 T rfl rfl rfl rfl (by conv => lhs; whnf) rfl (by repeat first | exact At.head _ _ | apply At.tail) rfl (by exact (rfl : _ = [_, _, _])) ?_
    | refine NV.store_var T rfl rfl rfl (by exact (rfl : _ = [_, _, _])) rfl rfl (by repeat first | exact At.head _ _ | apply At.tail) (Nat.le_of_ble_eq_true rfl) (by exact (rfl : _ = [_, _, _])) ?_
    | refine NV.store_elem T rfl rfl rfl rfl (by conv => lhs; whnf) rfl (by repeat first | exact At.head _ _ | apply At.tail) (by omega) ?_
  refine RL.nil _ _ _ _ ?_
  refine hK3 _ _ _ ?_
  refine SW.seq_k ?_
  intro K4 hK4
  refine SW.region _ _ _ _ ?_
  refine RL.step (Gd.none rfl) rfl rfl ?_
  first
    | refine NV.load_var1 T rfl rfl rfl rfl (by repeat first | exact At.head _ _ | apply At.tail) rfl ?_
    | refine NV.load_varN T rfl rfl rfl rfl rfl (by repeat first | exact At.head _ _ | apply At.tail) (by exact (rfl : _ = [_, _, _])) rfl ?_
    | refine NV.load_elem T rfl rfl rfl rfl (by assumption) (by first | exact map_get _ _ (by omega) | assumption) ?_
  refine RL.step (Gd.none rfl) rfl rfl ?_
  refine NV.call rfl rfl rfl fun9 rfl rfl (pmode_ok a b ha ha2 hb hb2) ?_
  rintro _ _ ⟨rfl, rfl⟩
  refine RL.step (Gd.none rfl) rfl rfl ?_
  refine NV.pure T (by conv => lhs; whnf; arg 1; whnf) ?_
  refine RL.step (Gd.none rfl) rfl rfl ?_
  refine NV.pure T (by conv => lhs; whnf; arg 1; whnf) ?_
  refine RL.step (Gd.none rfl) rfl rfl ?_
  refine NV.pure T (by conv => lhs; whnf; arg 1; whnf) ?_
  refine RL.step (Gd.none rfl) rfl rfl ?_
  refine NV.pure T (by conv => lhs; whnf; arg 1; whnf) ?_
  refine RL.step (Gd.none rfl) rfl rfl ?_
  refine NV.pure T (by conv => lhs; whnf; arg 1; whnf) ?_
  refine RL.nil _ _ _ _ ?_
  refine hK4 _ _ _ ?_
  refine SW.seq_k ?_
  intro K5 hK5
  refine SW.region _ _ _ _ ?_
  refine RL.step (Gd.none rfl) rfl rfl ?_
  first
    | refine NV.load_var1 T rfl rfl rfl rfl (by repeat first | exact At.head _ _ | apply At.tail) rfl ?_
    | refine NV.load_varN T rfl rfl rfl rfl rfl (by repeat first | exact At.head _ _ | apply At.tail) (by exact (rfl : _ = [_, _, _])) rfl ?_
    | refine NV.load_elem T rfl rfl rfl rfl (by assumption) (by first | exact map_get _ _ (by omega) | assumption) ?_
  refine RL.step (Gd.none rfl) rfl rfl ?_
  refine NV.call rfl rfl rfl fun10 rfl rfl (rmode_ok a b ha ha2 hb hb2) ?_
  rintro _ _ ⟨rfl, rfl⟩
  refine RL.step (Gd.none rfl) rfl rfl ?_
  refine NV.pure T (by conv => lhs; whnf; arg 1; whnf) ?_
  refine RL.step (Gd.none rfl) rfl rfl ?_
  refine NV.pure T (by conv => lhs; whnf; arg 1; whnf) ?_
  refine RL.step (Gd.none rfl) rfl rfl ?_
  refine NV.pure T (by conv => lhs; whnf; arg 1; whnf) ?_
  refine RL.step (Gd.none rfl) rfl rfl ?_
  refine NV.pure T (by conv => lhs; whnf; arg 1; whnf) ?_
  refine RL.step (Gd.none rfl) rfl rfl ?_
  refine NV.pure T (by conv => lhs; whnf; arg 1; whnf) ?_
  refine RL.nil _ _ _ _ ?_
  refine hK5 _ _ _ ?_
  refine SW.seq_k ?_
  intro K6 hK6
  refine SW.region _ _ _ _ ?_
  refine RL.step (Gd.none rfl) rfl rfl ?_
  first
    | refine NV.load_var1 T rfl rfl rfl rfl (by repeat first | exact At.head _ _ | apply At.tail) rfl ?_
    | refine NV.load_varN T rfl rfl rfl rfl rfl (by repeat first | exact At.head _ _ | apply At.tail) (by exact (rfl : _ = [_, _, _])) rfl ?_
    | refine NV.load_elem T rfl rfl rfl rfl (by assumption) (by first | exact map_get _ _ (by omega) | assumption) ?_
  refine RL.step (Gd.none rfl) rfl rfl ?_
  refine NV.pure T (by conv => lhs; whnf; arg 1; whnf) ?_
  refine RL.step (Gd.none rfl) rfl rfl ?_
  refine NV.call rfl rfl rfl fun11 rfl rfl (next_ok a b e he he2 ha ha2 hb hb2) ?_
  rintro _ _ ⟨rfl, rfl⟩
  refine RL.step (Gd.none rfl) rfl rfl ?_
  refine NV.pure T (by conv => lhs; whnf; arg 1; whnf) ?_
  refine RL.step (Gd.none rfl) rfl rfl ?_
  refine NV.pure T (by conv => lhs; whnf; arg 1; whnf) ?_
  refine RL.step (Gd.none rfl) rfl rfl ?_
  refine NV.pure T (by conv => lhs; whnf; arg 1; whnf) ?_
  refine RL.step (Gd.none rfl) rfl rfl ?_
  refine NV.alloc T rfl rfl rfl (by exact (rfl : _ = [_, _, _])) ?_
  intro b10_2
  refine RL.step (Gd.none rfl) rfl rfl ?_
  first
    | refine NV.store_var1 T rfl rfl rfl rfl (by conv => lhs; whnf) rfl (by repeat first | exact At.head _ _ | apply At.tail) rfl (by exact (rfl : _ = [_, _, _])) ?_
    | refine NV.store_var T rfl rfl rfl (by exact (rfl : _ = [_, _, _])) rfl rfl (by repeat first | exact At.head _ _ | apply At.tail) (Nat.le_of_ble_eq_true rfl) (by exact (rfl : _ = [_, _, _])) ?_
    | refine NV.store_elem T rfl rfl rfl rfl (by conv => lhs; whnf) rfl (by repeat first | exact At.head _ _ | apply At.tail) (by omega) ?_
  refine RL.step (Gd.none rfl) rfl rfl ?_
  refine NV.pure T (by conv => lhs; whnf; arg 1; whnf) ?_
  refine RL.nil _ _ _ _ ?_
  refine hK6 _ _ _ ?_
  refine SW.seq_k ?_
  intro K7 hK7
  refine SW.region _ _ _ _ ?_
  refine RL.step (Gd.none rfl) rfl rfl ?_
  first
    | refine NV.load_var1 T rfl rfl rfl rfl (by repeat first | exact At.head _ _ | apply At.tail) rfl ?_
    | refine NV.load_varN T rfl rfl rfl rfl rfl (by repeat first | exact At.head _ _ | apply At.tail) (by exact (rfl : _ = [_, _, _])) rfl ?_
    | refine NV.load_elem T rfl rfl rfl rfl (by assumption) (by first | exact map_get _ _ (by omega) | assumption) ?_
  refine RL.step (Gd.none rfl) rfl rfl ?_
  refine NV.pure T (by conv => lhs; whnf; arg 1; whnf) ?_
  refine RL.step (Gd.none rfl) rfl rfl ?_
  refine NV.call rfl rfl rfl fun12 rfl rfl (rnext_ok a b e he he2 ha ha2 hb hb2) ?_
  rintro _ _ ⟨rfl, rfl⟩
  refine RL.step (Gd.none rfl) rfl rfl ?_
  refine NV.pure T (by conv => lhs; whnf; arg 1; whnf) ?_
  refine RL.step (Gd.none rfl) rfl rfl ?_
  refine NV.pure T (by conv => lhs; whnf; arg 1; whnf) ?_
  refine RL.step (Gd.none rfl) rfl rfl ?_
  refine NV.pure T (by conv => lhs; whnf; arg 1; whnf) ?_
  refine RL.step (Gd.none rfl) rfl rfl ?_
  refine NV.alloc T rfl rfl rfl (by exact (rfl : _ = [_, _, _])) ?_
  intro b12_3
  refine RL.step (Gd.none rfl) rfl rfl ?_
  first
    | refine NV.store_var1 T rfl rfl rfl rfl (by conv => lhs; whnf) rfl (by repeat first | exact At.head _ _ | apply At.tail) rfl (by exact (rfl : _ = [_, _, _])) ?_
    | refine NV.store_var T rfl rfl rfl (by exact (rfl : _ = [_, _, _])) rfl rfl (by repeat first | exact At.head _ _ | apply At.tail) (Nat.le_of_ble_eq_true rfl) (by exact (rfl : _ = [_, _, _])) ?_
    | refine NV.store_elem T rfl rfl rfl rfl (by conv => lhs; whnf) rfl (by repeat first | exact At.head _ _ | apply At.tail) (by omega) ?_
  refine RL.step (Gd.none rfl) rfl rfl ?_
  refine NV.pure T (by conv => lhs; whnf; arg 1; whnf) ?_
  refine RL.nil _ _ _ _ ?_
  refine hK7 _ _ _ ?_
  refine SW.seq_k ?_
  intro K8 hK8
  refine SW.draw [(39, 0), (40, 1), (41, 2), (42, 3), (43, 4), (44, 5), (45, 6), (46, 7), (47, 8), (48, 9), (49, 10), (50, 11), (51, 12), (52, 13), (53, 14), (54, 15), (55, 16), (56, 17), (57, 18), (58, 19), (59, 20), (60, 21), (61, 22), (62, 23), (63, 24), (4, 25)] [[], [0], [], [2, 1, 0], [1, 0, 3, 2], [4, 1, 0, 3, 2], [5, 4, 1, 0, 3, 2], [5, 4, 1, 0, 3, 2], [6, 5, 4, 1, 0, 3, 2, 7], [5, 4, 1, 0, 3, 2, 8, 6, 7], [9, 5, 4, 1, 0, 3, 2, 8, 6, 7], [10, 9, 5, 4, 1, 0, 3, 2, 8, 6, 7], [10, 9, 5, 4, 1, 0, 3, 2, 8, 6, 7], [11, 10, 9, 5, 4, 1, 0, 3, 2, 8, 6, 7, 12], [10, 9, 5, 4, 1, 0, 3, 2, 8, 6, 7, 13, 11, 12], [14, 10, 9, 5, 4, 1, 0, 3, 2, 8, 6, 7, 13, 11, 12], [15, 14, 10, 9, 5, 4, 1, 0, 3, 2, 8, 6, 7, 13, 11, 12], [15, 14, 10, 9, 5, 4, 1, 0, 3, 2, 8, 6, 7, 13, 11, 12], [16, 15, 14, 10, 9, 5, 4, 1, 0, 3, 2, 8, 6, 7, 13, 11, 12, 17], [15, 14, 10, 9, 5, 4, 1, 0, 3, 2, 8, 6, 7, 13, 11, 12, 18, 16, 17], [19, 15, 14, 10, 9, 5, 4, 1, 0, 3, 2, 8, 6, 7, 13, 11, 12, 18, 16, 17], [20, 19, 15, 14, 10, 9, 5, 4, 1, 0, 3, 2, 8, 6, 7, 13, 11, 12, 18, 16, 17], [20, 19, 15, 14, 10, 9, 5, 4, 1, 0, 3, 2, 8, 6, 7, 13, 11, 12, 18, 16, 17], [21, 20, 19, 15, 14, 10, 9, 5, 4, 1, 0, 3, 2, 8, 6, 7, 13, 11, 12, 18, 16, 17, 22], [20, 19, 15, 14, 10, 9, 5, 4, 1, 0, 3, 2, 8, 6, 7, 13, 11, 12, 18, 16, 17, 23, 21, 22], [24, 20, 19, 15, 14, 10, 9, 5, 4, 1, 0, 3, 2, 8, 6, 7, 13, 11, 12, 18, 16, 17, 23, 21, 22]] mixed (by kernel_rfl) (by kernel_rfl) ?_
  refine RD.q rfl rfl (Gd.none rfl) (by first | exact QV.load_var1 T rfl rfl rfl rfl (by repeat first | exact At.head _ _ | apply At.tail) rfl | exact QV.load_varN T rfl rfl rfl rfl rfl (by repeat first | exact At.head _ _ | apply At.tail) (by exact (rfl : _ = [_, _, _])) rfl | exact QV.load_elem T rfl rfl rfl rfl (by assumption) (by first | exact map_get _ _ (by omega) | assumption)) ?_
  refine RD.q rfl rfl (Gd.none rfl) (by first | exact QV.load_var1 T rfl rfl rfl rfl (by repeat first | exact At.head _ _ | apply At.tail) rfl | exact QV.load_varN T rfl rfl rfl rfl rfl (by repeat first | exact At.head _ _ | apply At.tail) (by exact (rfl : _ = [_, _, _])) rfl | exact QV.load_elem T rfl rfl rfl rfl (by assumption) (by first | exact map_get _ _ (by omega) | assumption)) ?_
  refine RD.nv rfl rfl rfl (Gd.none rfl) ?_
  refine NV.call rfl rfl rfl fun13 rfl rfl (check_ok a b ha ha2 hb hb2) ?_
  rintro _ _ ⟨rfl, rfl⟩
  refine ⟨(Stab.cons rfl (Gd.none rfl) (by first | exact QV.load_var1 T rfl rfl rfl rfl (by repeat first | exact At.head _ _ | apply At.tail) rfl | exact QV.load_varN T rfl rfl rfl rfl rfl (by repeat first | exact At.head _ _ | apply At.tail) rfl rfl | exact QV.load_elem T rfl rfl rfl rfl (by assumption) (by first | exact map_get _ _ (by omega) | assumption)) Stab.nil), ?_⟩
  refine RD.nv rfl rfl rfl (Gd.none rfl) ?_
  refine NV.call rfl rfl rfl fun14 rfl rfl (rcheck_ok a b ha ha2 hb hb2) ?_
  rintro _ _ ⟨rfl, rfl⟩
  refine ⟨Stab.nil, ?_⟩
  refine RD.q rfl rfl (Gd.none rfl) (by first | exact QV.eqT rfl rfl rfl (rfl) | exact QV.as (v' := .bool true) (QV.eqd T PL rfl rfl rfl Try.eqGuardType26 rfl) (by simp)) ?_
  refine RD.q rfl rfl (Gd.none rfl) (pev_sound T (by conv => lhs; whnf; arg 1; whnf)) ?_
  refine RD.q rfl rfl (Gd.yes rfl rfl) (pev_sound T (by conv => lhs; whnf; arg 1; whnf)) ?_
  refine RD.q rfl rfl (Gd.yes rfl rfl) (pev_sound T (by conv => lhs; whnf; arg 1; whnf)) ?_
  refine RD.q rfl rfl (Gd.yes rfl rfl) (by first | exact QV.eqT rfl rfl rfl (rfl) | exact QV.as (v' := .bool true) (QV.eqd T PL rfl rfl rfl Try.eqGuardType3 rfl) (by simp)) ?_
  refine RD.q rfl rfl (Gd.none rfl) (pev_sound T (by conv => lhs; whnf; arg 1; whnf)) ?_
  refine RD.q rfl rfl (Gd.none rfl) (pev_sound T (by conv => lhs; whnf; arg 1; whnf)) ?_
  refine RD.q rfl rfl (Gd.yes rfl rfl) (pev_sound T (by conv => lhs; whnf; arg 1; whnf)) ?_
  refine RD.q rfl rfl (Gd.yes rfl rfl) (pev_sound T (by conv => lhs; whnf; arg 1; whnf)) ?_
  refine RD.q rfl rfl (Gd.yes rfl rfl) (by first | exact QV.eqT rfl rfl rfl (rfl) | exact QV.as (v' := .bool true) (QV.eqd T PL rfl rfl rfl Try.eqGuardType26 rfl) (by simp)) ?_
  refine RD.q rfl rfl (Gd.none rfl) (pev_sound T (by conv => lhs; whnf; arg 1; whnf)) ?_
  refine RD.q rfl rfl (Gd.none rfl) (pev_sound T (by conv => lhs; whnf; arg 1; whnf)) ?_
  refine RD.q rfl rfl (Gd.yes rfl rfl) (by first | exact QV.load_var1 T rfl rfl rfl rfl (by repeat first | exact At.head _ _ | apply At.tail) rfl | exact QV.load_varN T rfl rfl rfl rfl rfl (by repeat first | exact At.head _ _ | apply At.tail) (by exact (rfl : _ = [_, _, _])) rfl | exact QV.load_elem T rfl rfl rfl rfl (by assumption) (by first | exact map_get _ _ (by omega) | assumption)) ?_
  refine RD.q rfl rfl (Gd.yes rfl rfl) (by first | exact QV.load_var1 T rfl rfl rfl rfl (by repeat first | exact At.head _ _ | apply At.tail) rfl | exact QV.load_varN T rfl rfl rfl rfl rfl (by repeat first | exact At.head _ _ | apply At.tail) (by exact (rfl : _ = [_, _, _])) rfl | exact QV.load_elem T rfl rfl rfl rfl (by assumption) (by first | exact map_get _ _ (by omega) | assumption)) ?_
  refine RD.q rfl rfl (Gd.yes rfl rfl) (by first | exact QV.eqT rfl rfl rfl (rfl) | exact QV.as (v' := .bool true) (QV.eqd T PL rfl rfl rfl Try.eqGuardType23 rfl) (by simp)) ?_
  refine RD.q rfl rfl (Gd.none rfl) (pev_sound T (by conv => lhs; whnf; arg 1; whnf)) ?_
  refine RD.q rfl rfl (Gd.none rfl) (pev_sound T (by conv => lhs; whnf; arg 1; whnf)) ?_
  refine RD.q rfl rfl (Gd.yes rfl rfl) (pev_sound T (by conv => lhs; whnf; arg 1; whnf)) ?_
  refine RD.q rfl rfl (Gd.yes rfl rfl) (pev_sound T (by conv => lhs; whnf; arg 1; whnf)) ?_
  refine RD.q rfl rfl (Gd.yes rfl rfl) (by first | exact QV.eqT rfl rfl rfl (rfl) | exact QV.as (v' := .bool true) (QV.eqd T PL rfl rfl rfl Try.eqGuardType26 rfl) (by simp)) ?_
  refine RD.q rfl rfl (Gd.none rfl) (pev_sound T (by conv => lhs; whnf; arg 1; whnf)) ?_
  refine RD.q rfl rfl (Gd.none rfl) (pev_sound T (by conv => lhs; whnf; arg 1; whnf)) ?_
  refine RD.k rfl rfl ?_
  refine hK8 _ _ _ ?_
  refine SW.ret ?_
  refine retQ.ret (H' := H) (RVs.tmp (by conv => lhs; whnf) RVs.nil) (fun w hw => Sat.sub (by repeat first | exact List.Sublist.refl _ | apply List.Sublist.cons_cons | apply List.Sublist.cons) hw) ?_
  clear hK8 K8 hK7 K7 hK6 K6 hK5 K5 hK4 K4 hK3 K3 hK2 K2 hK1 K1 hK0 K0
  exact ⟨rfl, rfl⟩
theorem nexts_arg {w0 : World} {H : List Chunk} (a b e : Int) (he : e < 1 ∨ 6 < e) (ha : 0 ≤ a) (ha2 : a ≤ 263) (hb : 0 ≤ b) (hb2 : b ≤ 255) : SC Try.prog w0 3 #[sv a b, .int .i64 e] H (fun v H' => v = .bool true ∧ H' = H) := by
  refine SC.enter Try.func3 rfl (Nat.le_of_ble_eq_true rfl) ?_
  refine SW.seq_k ?_
  intro K0 hK0
  refine SW.region _ _ _ _ ?_
  refine RL.step (Gd.none rfl) rfl rfl ?_
  refine NV.box rfl (by exact (rfl : _ = [_, _, _])) ?_
  intro b2_0
  refine RL.step (Gd.none rfl) rfl rfl ?_
  refine NV.pure T (by conv => lhs; whnf; arg 1; whnf) ?_
  refine RL.nil _ _ _ _ ?_
  refine hK0 _ _ _ ?_
  refine SW.seq_k ?_
  intro K1 hK1
  refine SW.seq_k ?_
  intro K2 hK2
  refine SW.region _ _ _ _ ?_
  refine RL.step (Gd.none rfl) rfl rfl ?_
  refine NV.call rfl rfl rfl fun8 rfl rfl (alive) ?_
  rintro _ _ ⟨rfl, rfl⟩
  refine RL.step (Gd.none rfl) rfl rfl ?_
  refine NV.pure T (by conv => lhs; whnf; arg 1; whnf) ?_
  refine RL.nil _ _ _ _ ?_
  refine hK2 _ _ _ ?_
  refine SW.cond_f rfl ?_
  refine SW.skip ?_
  refine hK1 _ _ _ ?_
  refine SW.seq_k ?_
  intro K3 hK3
  refine SW.region _ _ _ _ ?_
  refine RL.step (Gd.none rfl) rfl rfl ?_
  first
    | refine NV.load_var1 T rfl rfl rfl rfl (by repeat first | exact At.head _ _ | apply At.tail) rfl ?_
    | refine NV.load_varN T rfl rfl rfl rfl rfl (by repeat first | exact At.head _ _ | apply At.tail) (by exact (rfl : _ = [_, _, _])) rfl ?_
    | refine NV.load_elem T rfl rfl rfl rfl (by assumption) (by first | exact map_get _ _ (by omega) | assumption) ?_
  refine RL.step (Gd.none rfl) rfl rfl ?_
  refine NV.alloc T rfl rfl rfl (by exact (rfl : _ = [_, _, _])) ?_
  intro b5_1
  refine RL.step (Gd.none rfl) rfl rfl ?_
  first
    | refine NV.store_var1 T rfl rfl rfl rfl (by conv => lhs; whnf) rfl (by repeat first | exact At.head _ _ | apply At.tail) rfl (by exact (rfl : _ = [_, _, _])) ?_
    | refine NV.store_var T rfl rfl rfl (by exact (rfl : _ = [_, _, _])) rfl rfl (by repeat first | exact At.head _ _ | apply At.tail) (Nat.le_of_ble_eq_true rfl) (by exact (rfl : _ = [_, _, _])) ?_
    | refine NV.store_elem T rfl rfl rfl rfl (by conv => lhs; whnf) rfl (by repeat first | exact At.head _ _ | apply At.tail) (by omega) ?_
  refine RL.nil _ _ _ _ ?_
  refine hK3 _ _ _ ?_
  refine SW.seq_k ?_
  intro K4 hK4
  refine SW.region _ _ _ _ ?_
  refine RL.step (Gd.none rfl) rfl rfl ?_
  first
    | refine NV.load_var1 T rfl rfl rfl rfl (by repeat first | exact At.head _ _ | apply At.tail) rfl ?_
    | refine NV.load_varN T rfl rfl rfl rfl rfl (by repeat first | exact At.head _ _ | apply At.tail) (by exact (rfl : _ = [_, _, _])) rfl ?_
    | refine NV.load_elem T rfl rfl rfl rfl (by assumption) (by first | exact map_get _ _ (by omega) | assumption) ?_
  refine RL.step (Gd.none rfl) rfl rfl ?_
  refine NV.call rfl rfl rfl fun9 rfl rfl (pmode_ok a b ha ha2 hb hb2) ?_
  rintro _ _ ⟨rfl, rfl⟩
  refine RL.step (Gd.none rfl) rfl rfl ?_
  refine NV.pure T (by conv => lhs; whnf; arg 1; whnf) ?_
  refine RL.step (Gd.none rfl) rfl rfl ?_
  refine NV.pure T (by conv => lhs; whnf; arg 1; whnf) ?_
  refine RL.step (Gd.none rfl) rfl rfl ?_
  refine NV.pure T (by conv => lhs; whnf; arg 1; whnf) ?_
  refine RL.step (Gd.none rfl) rfl rfl ?_
  refine NV.pure T (by conv => lhs; whnf; arg 1; whnf) ?_
  refine RL.step (Gd.none rfl) rfl rfl ?_
  refine NV.pure T (by conv => lhs; whnf; arg 1; whnf) ?_
  refine RL.nil _ _ _ _ ?_
  refine hK4 _ _ _ ?_
  refine SW.seq_k ?_
  intro K5 hK5
  refine SW.region _ _ _ _ ?_
  refine RL.step (Gd.none rfl) rfl rfl ?_
  first
    | refine NV.load_var1 T rfl rfl rfl rfl (by repeat first | exact At.head _ _ | apply At.tail) rfl ?_
    | refine NV.load_varN T rfl rfl rfl rfl rfl (by repeat first | exact At.head _ _ | apply At.tail) (by exact (rfl : _ = [_, _, _])) rfl ?_
    | refine NV.load_elem T rfl rfl rfl rfl (by assumption) (by first | exact map_get _ _ (by omega) | assumption) ?_
  refine RL.step (Gd.none rfl) rfl rfl ?_
  refine NV.call rfl rfl rfl fun10 rfl rfl (rmode_ok a b ha ha2 hb hb2) ?_
  rintro _ _ ⟨rfl, rfl⟩
  refine RL.step (Gd.none rfl) rfl rfl ?_
  refine NV.pure T (by conv => lhs; whnf; arg 1; whnf) ?_
  refine RL.step (Gd.none rfl) rfl rfl ?_
  refine NV.pure T (by conv => lhs; whnf; arg 1; whnf) ?_
  refine RL.step (Gd.none rfl) rfl rfl ?_
  refine NV.pure T (by conv => lhs; whnf; arg 1; whnf) ?_
  refine RL.step (Gd.none rfl) rfl rfl ?_
  refine NV.pure T (by conv => lhs; whnf; arg 1; whnf) ?_
  refine RL.step (Gd.none rfl) rfl rfl ?_
  refine NV.pure T (by conv => lhs; whnf; arg 1; whnf) ?_
  refine RL.nil _ _ _ _ ?_
  refine hK5 _ _ _ ?_
  refine SW.seq_k ?_
  intro K6 hK6
  refine SW.region _ _ _ _ ?_
  refine RL.step (Gd.none rfl) rfl rfl ?_
  first
    | refine NV.load_var1 T rfl rfl rfl rfl (by repeat first | exact At.head _ _ | apply At.tail) rfl ?_
    | refine NV.load_varN T rfl rfl rfl rfl rfl (by repeat first | exact At.head _ _ | apply At.tail) (by exact (rfl : _ = [_, _, _])) rfl ?_
    | refine NV.load_elem T rfl rfl rfl rfl (by assumption) (by first | exact map_get _ _ (by omega) | assumption) ?_
  refine RL.step (Gd.none rfl) rfl rfl ?_
  refine NV.pure T (by conv => lhs; whnf; arg 1; whnf) ?_
  refine RL.step (Gd.none rfl) rfl rfl ?_
  refine NV.call rfl rfl rfl fun11 rfl rfl (next_arg a b e he ha ha2 hb hb2) ?_
  rintro _ _ ⟨rfl, rfl⟩
  refine RL.step (Gd.none rfl) rfl rfl ?_
  refine NV.pure T (by conv => lhs; whnf; arg 1; whnf) ?_
  refine RL.step (Gd.none rfl) rfl rfl ?_
  refine NV.pure T (by conv => lhs; whnf; arg 1; whnf) ?_
  refine RL.step (Gd.none rfl) rfl rfl ?_
  refine NV.pure T (by conv => lhs; whnf; arg 1; whnf) ?_
  refine RL.step (Gd.none rfl) rfl rfl ?_
  refine NV.alloc T rfl rfl rfl (by exact (rfl : _ = [_, _, _])) ?_
  intro b10_2
  refine RL.step (Gd.none rfl) rfl rfl ?_
  first
    | refine NV.store_var1 T rfl rfl rfl rfl (by conv => lhs; whnf) rfl (by repeat first | exact At.head _ _ | apply At.tail) rfl (by exact (rfl : _ = [_, _, _])) ?_
    | refine NV.store_var T rfl rfl rfl (by exact (rfl : _ = [_, _, _])) rfl rfl (by repeat first | exact At.head _ _ | apply At.tail) (Nat.le_of_ble_eq_true rfl) (by exact (rfl : _ = [_, _, _])) ?_
    | refine NV.store_elem T rfl rfl rfl rfl (by conv => lhs; whnf) rfl (by repeat first | exact At.head _ _ | apply At.tail) (by omega) ?_
  refine RL.step (Gd.none rfl) rfl rfl ?_
  refine NV.pure T (by conv => lhs; whnf; arg 1; whnf) ?_
  refine RL.nil _ _ _ _ ?_
  refine hK6 _ _ _ ?_
  refine SW.seq_k ?_
  intro K7 hK7
  refine SW.region _ _ _ _ ?_
  refine RL.step (Gd.none rfl) rfl rfl ?_
  first
    | refine NV.load_var1 T rfl rfl rfl rfl (by repeat first | exact At.head _ _ | apply At.tail) rfl ?_
    | refine NV.load_varN T rfl rfl rfl rfl rfl (by repeat first | exact At.head _ _ | apply At.tail) (by exact (rfl : _ = [_, _, _])) rfl ?_
    | refine NV.load_elem T rfl rfl rfl rfl (by assumption) (by first | exact map_get _ _ (by omega) | assumption) ?_
  refine RL.step (Gd.none rfl) rfl rfl ?_
  refine NV.pure T (by conv => lhs; whnf; arg 1; whnf) ?_
  refine RL.step (Gd.none rfl) rfl rfl ?_
  refine NV.call rfl rfl rfl fun12 rfl rfl (rnext_arg a b e he ha ha2 hb hb2) ?_
  rintro _ _ ⟨rfl, rfl⟩
  refine RL.step (Gd.none rfl) rfl rfl ?_
  refine NV.pure T (by conv => lhs; whnf; arg 1; whnf) ?_
  refine RL.step (Gd.none rfl) rfl rfl ?_
  refine NV.pure T (by conv => lhs; whnf; arg 1; whnf) ?_
  refine RL.step (Gd.none rfl) rfl rfl ?_
  refine NV.pure T (by conv => lhs; whnf; arg 1; whnf) ?_
  refine RL.step (Gd.none rfl) rfl rfl ?_
  refine NV.alloc T rfl rfl rfl (by exact (rfl : _ = [_, _, _])) ?_
  intro b12_3
  refine RL.step (Gd.none rfl) rfl rfl ?_
  first
    | refine NV.store_var1 T rfl rfl rfl rfl (by conv => lhs; whnf) rfl (by repeat first | exact At.head _ _ | apply At.tail) rfl (by exact (rfl : _ = [_, _, _])) ?_
    | refine NV.store_var T rfl rfl rfl (by exact (rfl : _ = [_, _, _])) rfl rfl (by repeat first | exact At.head _ _ | apply At.tail) (Nat.le_of_ble_eq_true rfl) (by exact (rfl : _ = [_, _, _])) ?_
    | refine NV.store_elem T rfl rfl rfl rfl (by conv => lhs; whnf) rfl (by repeat first | exact At.head _ _ | apply At.tail) (by omega) ?_
  refine RL.step (Gd.none rfl) rfl rfl ?_
  refine NV.pure T (by conv => lhs; whnf; arg 1; whnf) ?_
  refine RL.nil _ _ _ _ ?_
  refine hK7 _ _ _ ?_
  refine SW.seq_k ?_
  intro K8 hK8
  refine SW.draw [(39, 0), (40, 1), (41, 2), (42, 3), (43, 4), (44, 5), (45, 6), (46, 7), (47, 8), (48, 9), (49, 10), (50, 11), (51, 12), (52, 13), (53, 14), (54, 15), (55, 16), (56, 17), (57, 18), (58, 19), (59, 20), (60, 21), (61, 22), (62, 23), (63, 24), (4, 25)] [[], [0], [], [2, 1, 0], [1, 0, 3, 2], [4, 1, 0, 3, 2], [5, 4, 1, 0, 3, 2], [5, 4, 1, 0, 3, 2], [6, 5, 4, 1, 0, 3, 2, 7], [5, 4, 1, 0, 3, 2, 8, 6, 7], [9, 5, 4, 1, 0, 3, 2, 8, 6, 7], [10, 9, 5, 4, 1, 0, 3, 2, 8, 6, 7], [10, 9, 5, 4, 1, 0, 3, 2, 8, 6, 7], [11, 10, 9, 5, 4, 1, 0, 3, 2, 8, 6, 7, 12], [10, 9, 5, 4, 1, 0, 3, 2, 8, 6, 7, 13, 11, 12], [14, 10, 9, 5, 4, 1, 0, 3, 2, 8, 6, 7, 13, 11, 12], [15, 14, 10, 9, 5, 4, 1, 0, 3, 2, 8, 6, 7, 13, 11, 12], [15, 14, 10, 9, 5, 4, 1, 0, 3, 2, 8, 6, 7, 13, 11, 12], [16, 15, 14, 10, 9, 5, 4, 1, 0, 3, 2, 8, 6, 7, 13, 11, 12, 17], [15, 14, 10, 9, 5, 4, 1, 0, 3, 2, 8, 6, 7, 13, 11, 12, 18, 16, 17], [19, 15, 14, 10, 9, 5, 4, 1, 0, 3, 2, 8, 6, 7, 13, 11, 12, 18, 16, 17], [20, 19, 15, 14, 10, 9, 5, 4, 1, 0, 3, 2, 8, 6, 7, 13, 11, 12, 18, 16, 17], [20, 19, 15, 14, 10, 9, 5, 4, 1, 0, 3, 2, 8, 6, 7, 13, 11, 12, 18, 16, 17], [21, 20, 19, 15, 14, 10, 9, 5, 4, 1, 0, 3, 2, 8, 6, 7, 13, 11, 12, 18, 16, 17, 22], [20, 19, 15, 14, 10, 9, 5, 4, 1, 0, 3, 2, 8, 6, 7, 13, 11, 12, 18, 16, 17, 23, 21, 22], [24, 20, 19, 15, 14, 10, 9, 5, 4, 1, 0, 3, 2, 8, 6, 7, 13, 11, 12, 18, 16, 17, 23, 21, 22]] mixed (by kernel_rfl) (by kernel_rfl) ?_
  refine RD.q rfl rfl (Gd.none rfl) (by first | exact QV.load_var1 T rfl rfl rfl rfl (by repeat first | exact At.head _ _ | apply At.tail) rfl | exact QV.load_varN T rfl rfl rfl rfl rfl (by repeat first | exact At.head _ _ | apply At.tail) (by exact (rfl : _ = [_, _, _])) rfl | exact QV.load_elem T rfl rfl rfl rfl (by assumption) (by first | exact map_get _ _ (by omega) | assumption)) ?_
  refine RD.q rfl rfl (Gd.none rfl) (by first | exact QV.load_var1 T rfl rfl rfl rfl (by repeat first | exact At.head _ _ | apply At.tail) rfl | exact QV.load_varN T rfl rfl rfl rfl rfl (by repeat first | exact At.head _ _ | apply At.tail) (by exact (rfl : _ = [_, _, _])) rfl | exact QV.load_elem T rfl rfl rfl rfl (by assumption) (by first | exact map_get _ _ (by omega) | assumption)) ?_
  refine RD.nv rfl rfl rfl (Gd.none rfl) ?_
  refine NV.call rfl rfl rfl fun13 rfl rfl (check_ok a b ha ha2 hb hb2) ?_
  rintro _ _ ⟨rfl, rfl⟩
  refine ⟨(Stab.cons rfl (Gd.none rfl) (by first | exact QV.load_var1 T rfl rfl rfl rfl (by repeat first | exact At.head _ _ | apply At.tail) rfl | exact QV.load_varN T rfl rfl rfl rfl rfl (by repeat first | exact At.head _ _ | apply At.tail) rfl rfl | exact QV.load_elem T rfl rfl rfl rfl (by assumption) (by first | exact map_get _ _ (by omega) | assumption)) Stab.nil), ?_⟩
  refine RD.nv rfl rfl rfl (Gd.none rfl) ?_
  refine NV.call rfl rfl rfl fun14 rfl rfl (rcheck_ok a b ha ha2 hb hb2) ?_
  rintro _ _ ⟨rfl, rfl⟩
  refine ⟨Stab.nil, ?_⟩
  refine RD.q rfl rfl (Gd.none rfl) (by first | exact QV.eqT rfl rfl rfl (rfl) | exact QV.as (v' := .bool true) (QV.eqd T PL rfl rfl rfl Try.eqGuardType26 rfl) (by simp)) ?_
  refine RD.q rfl rfl (Gd.none rfl) (pev_sound T (by conv => lhs; whnf; arg 1; whnf)) ?_
  refine RD.q rfl rfl (Gd.yes rfl rfl) (pev_sound T (by conv => lhs; whnf; arg 1; whnf)) ?_
  refine RD.q rfl rfl (Gd.yes rfl rfl) (pev_sound T (by conv => lhs; whnf; arg 1; whnf)) ?_
  refine RD.q rfl rfl (Gd.yes rfl rfl) (by first | exact QV.eqT rfl rfl rfl (rfl) | exact QV.as (v' := .bool true) (QV.eqd T PL rfl rfl rfl Try.eqGuardType3 rfl) (by simp)) ?_
  refine RD.q rfl rfl (Gd.none rfl) (pev_sound T (by conv => lhs; whnf; arg 1; whnf)) ?_
  refine RD.q rfl rfl (Gd.none rfl) (pev_sound T (by conv => lhs; whnf; arg 1; whnf)) ?_
  refine RD.q rfl rfl (Gd.yes rfl rfl) (pev_sound T (by conv => lhs; whnf; arg 1; whnf)) ?_
  refine RD.q rfl rfl (Gd.yes rfl rfl) (pev_sound T (by conv => lhs; whnf; arg 1; whnf)) ?_
  refine RD.q rfl rfl (Gd.yes rfl rfl) (by first | exact QV.eqT rfl rfl rfl (rfl) | exact QV.as (v' := .bool true) (QV.eqd T PL rfl rfl rfl Try.eqGuardType26 rfl) (by simp)) ?_
  refine RD.q rfl rfl (Gd.none rfl) (pev_sound T (by conv => lhs; whnf; arg 1; whnf)) ?_
  refine RD.q rfl rfl (Gd.none rfl) (pev_sound T (by conv => lhs; whnf; arg 1; whnf)) ?_
  refine RD.q rfl rfl (Gd.yes rfl rfl) (by first | exact QV.load_var1 T rfl rfl rfl rfl (by repeat first | exact At.head _ _ | apply At.tail) rfl | exact QV.load_varN T rfl rfl rfl rfl rfl (by repeat first | exact At.head _ _ | apply At.tail) (by exact (rfl : _ = [_, _, _])) rfl | exact QV.load_elem T rfl rfl rfl rfl (by assumption) (by first | exact map_get _ _ (by omega) | assumption)) ?_
  refine RD.q rfl rfl (Gd.yes rfl rfl) (by first | exact QV.load_var1 T rfl rfl rfl rfl (by repeat first | exact At.head _ _ | apply At.tail) rfl | exact QV.load_varN T rfl rfl rfl rfl rfl (by repeat first | exact At.head _ _ | apply At.tail) (by exact (rfl : _ = [_, _, _])) rfl | exact QV.load_elem T rfl rfl rfl rfl (by assumption) (by first | exact map_get _ _ (by omega) | assumption)) ?_
  refine RD.q rfl rfl (Gd.yes rfl rfl) (by first | exact QV.eqT rfl rfl rfl (rfl) | exact QV.as (v' := .bool true) (QV.eqd T PL rfl rfl rfl Try.eqGuardType23 rfl) (by simp)) ?_
  refine RD.q rfl rfl (Gd.none rfl) (pev_sound T (by conv => lhs; whnf; arg 1; whnf)) ?_
  refine RD.q rfl rfl (Gd.none rfl) (pev_sound T (by conv => lhs; whnf; arg 1; whnf)) ?_
  refine RD.q rfl rfl (Gd.yes rfl rfl) (pev_sound T (by conv => lhs; whnf; arg 1; whnf)) ?_
  refine RD.q rfl rfl (Gd.yes rfl rfl) (pev_sound T (by conv => lhs; whnf; arg 1; whnf)) ?_
  refine RD.q rfl rfl (Gd.yes rfl rfl) (by first | exact QV.eqT rfl rfl rfl (rfl) | exact QV.as (v' := .bool true) (QV.eqd T PL rfl rfl rfl Try.eqGuardType26 rfl) (by simp)) ?_
  refine RD.q rfl rfl (Gd.none rfl) (pev_sound T (by conv => lhs; whnf; arg 1; whnf)) ?_
  refine RD.q rfl rfl (Gd.none rfl) (pev_sound T (by conv => lhs; whnf; arg 1; whnf)) ?_
  refine RD.k rfl rfl ?_
  refine hK8 _ _ _ ?_
  refine SW.ret ?_
  refine retQ.ret (H' := H) (RVs.tmp (by conv => lhs; whnf) RVs.nil) (fun w hw => Sat.sub (by repeat first | exact List.Sublist.refl _ | apply List.Sublist.cons_cons | apply List.Sublist.cons) hw) ?_
  clear hK8 K8 hK7 K7 hK6 K6 hK5 K5 hK4 K4 hK3 K3 hK2 K2 hK1 K1 hK0 K0
  exact ⟨rfl, rfl⟩
theorem nexts_bad {w0 : World} {H : List Chunk} (a b e : Int) (c : Bool) (hbad : okS a b c = false) : SC Try.prog w0 3 #[.agg #[.int .i64 a, .int .i64 b, .bool c], .int .i64 e] H (fun v H' => v = .bool true ∧ H' = H) := by
  refine SC.enter Try.func3 rfl (Nat.le_of_ble_eq_true rfl) ?_
  refine SW.seq_k ?_
  intro K0 hK0
  refine SW.region _ _ _ _ ?_
  refine RL.step (Gd.none rfl) rfl rfl ?_
  refine NV.box rfl (by exact (rfl : _ = [_, _, _])) ?_
  intro b2_0
  refine RL.step (Gd.none rfl) rfl rfl ?_
  refine NV.pure T (by conv => lhs; whnf; arg 1; whnf) ?_
  refine RL.nil _ _ _ _ ?_
  refine hK0 _ _ _ ?_
  refine SW.seq_k ?_
  intro K1 hK1
  refine SW.seq_k ?_
  intro K2 hK2
  refine SW.region _ _ _ _ ?_
  refine RL.step (Gd.none rfl) rfl rfl ?_
  refine NV.call rfl rfl rfl fun8 rfl rfl (alive) ?_
  rintro _ _ ⟨rfl, rfl⟩
  refine RL.step (Gd.none rfl) rfl rfl ?_
  refine NV.pure T (by conv => lhs; whnf; arg 1; whnf) ?_
  refine RL.nil _ _ _ _ ?_
  refine hK2 _ _ _ ?_
  refine SW.cond_f rfl ?_
  refine SW.skip ?_
  refine hK1 _ _ _ ?_
  refine SW.seq_k ?_
  intro K3 hK3
  refine SW.region _ _ _ _ ?_
  refine RL.step (Gd.none rfl) rfl rfl ?_
  first
    | refine NV.load_var1 T rfl rfl rfl rfl (by repeat first | exact At.head _ _ | apply At.tail) rfl ?_
    | refine NV.load_varN T rfl rfl rfl rfl rfl (by repeat first | exact At.head _ _ | apply At.tail) (by exact (rfl : _ = [_, _, _])) rfl ?_
    | refine NV.load_elem T rfl rfl rfl rfl (by assumption) (by first | exact map_get _ _ (by omega) | assumption) ?_
  refine RL.step (Gd.none rfl) rfl rfl ?_
  refine NV.alloc T rfl rfl rfl (by exact (rfl : _ = [_, _, _])) ?_
  intro b5_1
  refine RL.step (Gd.none rfl) rfl rfl ?_
  first
    | refine NV.store_var1 T rfl rfl rfl rfl (by conv => lhs; whnf) rfl (by repeat first | exact At.head _ _ | apply At.tail) rfl (by exact (rfl : _ = [_, _, _])) ?_
    | refine NV.store_var T rfl rfl rfl (by exact (rfl : _ = [_, _, _])) rfl rfl (by repeat first | exact At.head _ _ | apply At.tail) (Nat.le_of_ble_eq_true rfl) (by exact (rfl : _ = [_, _, _])) ?_
    | refine NV.store_elem T rfl rfl rfl rfl (by conv => lhs; whnf) rfl (by repeat first | exact At.head _ _ | apply At.tail) (by omega) ?_
  refine RL.nil _ _ _ _ ?_
  refine hK3 _ _ _ ?_
  refine SW.seq_k ?_
  intro K4 hK4
  refine SW.region _ _ _ _ ?_
  refine RL.step (Gd.none rfl) rfl rfl ?_
  first
    | refine NV.load_var1 T rfl rfl rfl rfl (by repeat first | exact At.head _ _ | apply At.tail) rfl ?_
    | refine NV.load_varN T rfl rfl rfl rfl rfl (by repeat first | exact At.head _ _ | apply At.tail) (by exact (rfl : _ = [_, _, _])) rfl ?_
    | refine NV.load_elem T rfl rfl rfl rfl (by assumption) (by first | exact map_get _ _ (by omega) | assumption) ?_
  refine RL.step (Gd.none rfl) rfl rfl ?_
  refine NV.call rfl rfl rfl fun9 rfl rfl (pmode_bad a b c hbad) ?_
  rintro _ _ ⟨rfl, rfl⟩
  refine RL.step (Gd.none rfl) rfl rfl ?_
  refine NV.pure T (by conv => lhs; whnf; arg 1; whnf) ?_
  refine RL.step (Gd.none rfl) rfl rfl ?_
  refine NV.pure T (by conv => lhs; whnf; arg 1; whnf) ?_
  refine RL.step (Gd.none rfl) rfl rfl ?_
  refine NV.pure T (by conv => lhs; whnf; arg 1; whnf) ?_
  refine RL.step (Gd.none rfl) rfl rfl ?_
  refine NV.pure T (by conv => lhs; whnf; arg 1; whnf) ?_
  refine RL.step (Gd.none rfl) rfl rfl ?_
  refine NV.pure T (by conv => lhs; whnf; arg 1; whnf) ?_
  refine RL.nil _ _ _ _ ?_
  refine hK4 _ _ _ ?_
  refine SW.seq_k ?_
  intro K5 hK5
  refine SW.region _ _ _ _ ?_
  refine RL.step (Gd.none rfl) rfl rfl ?_
  first
    | refine NV.load_var1 T rfl rfl rfl rfl (by repeat first | exact At.head _ _ | apply At.tail) rfl ?_
    | refine NV.load_varN T rfl rfl rfl rfl rfl (by repeat first | exact At.head _ _ | apply At.tail) (by exact (rfl : _ = [_, _, _])) rfl ?_
    | refine NV.load_elem T rfl rfl rfl rfl (by assumption) (by first | exact map_get _ _ (by omega) | assumption) ?_
  refine RL.step (Gd.none rfl) rfl rfl ?_
  refine NV.call rfl rfl rfl fun10 rfl rfl (rmode_bad a b c hbad) ?_
  rintro _ _ ⟨rfl, rfl⟩
  refine RL.step (Gd.none rfl) rfl rfl ?_
  refine NV.pure T (by conv => lhs; whnf; arg 1; whnf) ?_
  refine RL.step (Gd.none rfl) rfl rfl ?_
  refine NV.pure T (by conv => lhs; whnf; arg 1; whnf) ?_
  refine RL.step (Gd.none rfl) rfl rfl ?_
  refine NV.pure T (by conv => lhs; whnf; arg 1; whnf) ?_
  refine RL.step (Gd.none rfl) rfl rfl ?_
  refine NV.pure T (by conv => lhs; whnf; arg 1; whnf) ?_
  refine RL.step (Gd.none rfl) rfl rfl ?_
  refine NV.pure T (by conv => lhs; whnf; arg 1; whnf) ?_
  refine RL.nil _ _ _ _ ?_
  refine hK5 _ _ _ ?_
  refine SW.seq_k ?_
  intro K6 hK6
  refine SW.region _ _ _ _ ?_
  refine RL.step (Gd.none rfl) rfl rfl ?_
  first
    | refine NV.load_var1 T rfl rfl rfl rfl (by repeat first | exact At.head _ _ | apply At.tail) rfl ?_
    | refine NV.load_varN T rfl rfl rfl rfl rfl (by repeat first | exact At.head _ _ | apply At.tail) (by exact (rfl : _ = [_, _, _])) rfl ?_
    | refine NV.load_elem T rfl rfl rfl rfl (by assumption) (by first | exact map_get _ _ (by omega) | assumption) ?_
  refine RL.step (Gd.none rfl) rfl rfl ?_
  refine NV.pure T (by conv => lhs; whnf; arg 1; whnf) ?_
  refine RL.step (Gd.none rfl) rfl rfl ?_
  refine NV.call rfl rfl rfl fun11 rfl rfl (next_bad a b e c hbad) ?_
  rintro _ _ ⟨rfl, rfl⟩
  refine RL.step (Gd.none rfl) rfl rfl ?_
  refine NV.pure T (by conv => lhs; whnf; arg 1; whnf) ?_
  refine RL.step (Gd.none rfl) rfl rfl ?_
  refine NV.pure T (by conv => lhs; whnf; arg 1; whnf) ?_
  refine RL.step (Gd.none rfl) rfl rfl ?_
  refine NV.pure T (by conv => lhs; whnf; arg 1; whnf) ?_
  refine RL.step (Gd.none rfl) rfl rfl ?_
  refine NV.alloc T rfl rfl rfl (by exact (rfl : _ = [_, _, _])) ?_
  intro b10_2
  refine RL.step (Gd.none rfl) rfl rfl ?_
  first
    | refine NV.store_var1 T rfl rfl rfl rfl (by conv => lhs; whnf) rfl (by repeat first | exact At.head _ _ | apply At.tail) rfl (by exact (rfl : _ = [_, _, _])) ?_
    | refine NV.store_var T rfl rfl rfl (by exact (rfl : _ = [_, _, _])) rfl rfl (by repeat first | exact At.head _ _ | apply At.tail) (Nat.le_of_ble_eq_true rfl) (by exact (rfl : _ = [_, _, _])) ?_
    | refine NV.store_elem T rfl rfl rfl rfl (by conv => lhs; whnf) rfl (by repeat first | exact At.head _ _ | apply At.tail) (by omega) ?_
  refine RL.step (Gd.none rfl) rfl rfl ?_
  refine NV.pure T (by conv => lhs; whnf; arg 1; whnf) ?_
  refine RL.nil _ _ _ _ ?_
  refine hK6 _ _ _ ?_
  refine SW.seq_k ?_
  intro K7 hK7
  refine SW.region _ _ _ _ ?_
  refine RL.step (Gd.none rfl) rfl rfl ?_
  first
    | refine NV.load_var1 T rfl rfl rfl rfl (by repeat first | exact At.head _ _ | apply At.tail) rfl ?_
    | refine NV.load_varN T rfl rfl rfl rfl rfl (by repeat first | exact At.head _ _ | apply At.tail) (by exact (rfl : _ = [_, _, _])) rfl ?_
    | refine NV.load_elem T rfl rfl rfl rfl (by assumption) (by first | exact map_get _ _ (by omega) | assumption) ?_
  refine RL.step (Gd.none rfl) rfl rfl ?_
  refine NV.pure T (by conv => lhs; whnf; arg 1; whnf) ?_
  refine RL.step (Gd.none rfl) rfl rfl ?_
  refine NV.call rfl rfl rfl fun12 rfl rfl (rnext_bad a b e c hbad) ?_
  rintro _ _ ⟨rfl, rfl⟩
  refine RL.step (Gd.none rfl) rfl rfl ?_
  refine NV.pure T (by conv => lhs; whnf; arg 1; whnf) ?_
  refine RL.step (Gd.none rfl) rfl rfl ?_
  refine NV.pure T (by conv => lhs; whnf; arg 1; whnf) ?_
  refine RL.step (Gd.none rfl) rfl rfl ?_
  refine NV.pure T (by conv => lhs; whnf; arg 1; whnf) ?_
  refine RL.step (Gd.none rfl) rfl rfl ?_
  refine NV.alloc T rfl rfl rfl (by exact (rfl : _ = [_, _, _])) ?_
  intro b12_3
  refine RL.step (Gd.none rfl) rfl rfl ?_
  first
    | refine NV.store_var1 T rfl rfl rfl rfl (by conv => lhs; whnf) rfl (by repeat first | exact At.head _ _ | apply At.tail) rfl (by exact (rfl : _ = [_, _, _])) ?_
    | refine NV.store_var T rfl rfl rfl (by exact (rfl : _ = [_, _, _])) rfl rfl (by repeat first | exact At.head _ _ | apply At.tail) (Nat.le_of_ble_eq_true rfl) (by exact (rfl : _ = [_, _, _])) ?_
    | refine NV.store_elem T rfl rfl rfl rfl (by conv => lhs; whnf) rfl (by repeat first | exact At.head _ _ | apply At.tail) (by omega) ?_
  refine RL.step (Gd.none rfl) rfl rfl ?_
  refine NV.pure T (by conv => lhs; whnf; arg 1; whnf) ?_
  refine RL.nil _ _ _ _ ?_
  refine hK7 _ _ _ ?_
  refine SW.seq_k ?_
  intro K8 hK8
  refine SW.draw [(39, 0), (40, 1), (41, 2), (42, 3), (43, 4), (44, 5), (45, 6), (46, 7), (47, 8), (48, 9), (49, 10), (50, 11), (51, 12), (52, 13), (53, 14), (54, 15), (55, 16), (56, 17), (57, 18), (58, 19), (59, 20), (60, 21), (61, 22), (62, 23), (63, 24), (4, 25)] [[], [0], [], [2, 1, 0], [1, 0, 3, 2], [4, 1, 0, 3, 2], [5, 4, 1, 0, 3, 2], [5, 4, 1, 0, 3, 2], [6, 5, 4, 1, 0, 3, 2, 7], [5, 4, 1, 0, 3, 2, 8, 6, 7], [9, 5, 4, 1, 0, 3, 2, 8, 6, 7], [10, 9, 5, 4, 1, 0, 3, 2, 8, 6, 7], [10, 9, 5, 4, 1, 0, 3, 2, 8, 6, 7], [11, 10, 9, 5, 4, 1, 0, 3, 2, 8, 6, 7, 12], [10, 9, 5, 4, 1, 0, 3, 2, 8, 6, 7, 13, 11, 12], [14, 10, 9, 5, 4, 1, 0, 3, 2, 8, 6, 7, 13, 11, 12], [15, 14, 10, 9, 5, 4, 1, 0, 3, 2, 8, 6, 7, 13, 11, 12], [15, 14, 10, 9, 5, 4, 1, 0, 3, 2, 8, 6, 7, 13, 11, 12], [16, 15, 14, 10, 9, 5, 4, 1, 0, 3, 2, 8, 6, 7, 13, 11, 12, 17], [15, 14, 10, 9, 5, 4, 1, 0, 3, 2, 8, 6, 7, 13, 11, 12, 18, 16, 17], [19, 15, 14, 10, 9, 5, 4, 1, 0, 3, 2, 8, 6, 7, 13, 11, 12, 18, 16, 17], [20, 19, 15, 14, 10, 9, 5, 4, 1, 0, 3, 2, 8, 6, 7, 13, 11, 12, 18, 16, 17], [20, 19, 15, 14, 10, 9, 5, 4, 1, 0, 3, 2, 8, 6, 7, 13, 11, 12, 18, 16, 17], [21, 20, 19, 15, 14, 10, 9, 5, 4, 1, 0, 3, 2, 8, 6, 7, 13, 11, 12, 18, 16, 17, 22], [20, 19, 15, 14, 10, 9, 5, 4, 1, 0, 3, 2, 8, 6, 7, 13, 11, 12, 18, 16, 17, 23, 21, 22], [24, 20, 19, 15, 14, 10, 9, 5, 4, 1, 0, 3, 2, 8, 6, 7, 13, 11, 12, 18, 16, 17, 23, 21, 22]] mixed (by kernel_rfl) (by kernel_rfl) ?_
  refine RD.q rfl rfl (Gd.none rfl) (by first | exact QV.load_var1 T rfl rfl rfl rfl (by repeat first | exact At.head _ _ | apply At.tail) rfl | exact QV.load_varN T rfl rfl rfl rfl rfl (by repeat first | exact At.head _ _ | apply At.tail) (by exact (rfl : _ = [_, _, _])) rfl | exact QV.load_elem T rfl rfl rfl rfl (by assumption) (by first | exact map_get _ _ (by omega) | assumption)) ?_
  refine RD.q rfl rfl (Gd.none rfl) (by first | exact QV.load_var1 T rfl rfl rfl rfl (by repeat first | exact At.head _ _ | apply At.tail) rfl | exact QV.load_varN T rfl rfl rfl rfl rfl (by repeat first | exact At.head _ _ | apply At.tail) (by exact (rfl : _ = [_, _, _])) rfl | exact QV.load_elem T rfl rfl rfl rfl (by assumption) (by first | exact map_get _ _ (by omega) | assumption)) ?_
  refine RD.nv rfl rfl rfl (Gd.none rfl) ?_
  refine NV.call rfl rfl rfl fun13 rfl rfl (check_bad a b c hbad) ?_
  rintro _ _ ⟨rfl, rfl⟩
  refine ⟨(Stab.cons rfl (Gd.none rfl) (by first | exact QV.load_var1 T rfl rfl rfl rfl (by repeat first | exact At.head _ _ | apply At.tail) rfl | exact QV.load_varN T rfl rfl rfl rfl rfl (by repeat first | exact At.head _ _ | apply At.tail) rfl rfl | exact QV.load_elem T rfl rfl rfl rfl (by assumption) (by first | exact map_get _ _ (by omega) | assumption)) Stab.nil), ?_⟩
  refine RD.nv rfl rfl rfl (Gd.none rfl) ?_
  refine NV.call rfl rfl rfl fun14 rfl rfl (rcheck_bad a b c hbad) ?_
  rintro _ _ ⟨rfl, rfl⟩
  refine ⟨Stab.nil, ?_⟩
  refine RD.q rfl rfl (Gd.none rfl) (by first | exact QV.eqT rfl rfl rfl (rfl) | exact QV.as (v' := .bool true) (QV.eqd T PL rfl rfl rfl Try.eqGuardType26 rfl) (by simp)) ?_
  refine RD.q rfl rfl (Gd.none rfl) (pev_sound T (by conv => lhs; whnf; arg 1; whnf)) ?_
  refine RD.q rfl rfl (Gd.yes rfl rfl) (pev_sound T (by conv => lhs; whnf; arg 1; whnf)) ?_
  refine RD.q rfl rfl (Gd.yes rfl rfl) (pev_sound T (by conv => lhs; whnf; arg 1; whnf)) ?_
  refine RD.q rfl rfl (Gd.yes rfl rfl) (by first | exact QV.eqT rfl rfl rfl (rfl) | exact QV.as (v' := .bool true) (QV.eqd T PL rfl rfl rfl Try.eqGuardType3 rfl) (by simp)) ?_
  refine RD.q rfl rfl (Gd.none rfl) (pev_sound T (by conv => lhs; whnf; arg 1; whnf)) ?_
  refine RD.q rfl rfl (Gd.none rfl) (pev_sound T (by conv => lhs; whnf; arg 1; whnf)) ?_
  refine RD.q rfl rfl (Gd.yes rfl rfl) (pev_sound T (by conv => lhs; whnf; arg 1; whnf)) ?_
  refine RD.q rfl rfl (Gd.yes rfl rfl) (pev_sound T (by conv => lhs; whnf; arg 1; whnf)) ?_
  refine RD.q rfl rfl (Gd.yes rfl rfl) (by first | exact QV.eqT rfl rfl rfl (rfl) | exact QV.as (v' := .bool true) (QV.eqd T PL rfl rfl rfl Try.eqGuardType26 rfl) (by simp)) ?_
  refine RD.q rfl rfl (Gd.none rfl) (pev_sound T (by conv => lhs; whnf; arg 1; whnf)) ?_
  refine RD.q rfl rfl (Gd.none rfl) (pev_sound T (by conv => lhs; whnf; arg 1; whnf)) ?_
  refine RD.q rfl rfl (Gd.yes rfl rfl) (by first | exact QV.load_var1 T rfl rfl rfl rfl (by repeat first | exact At.head _ _ | apply At.tail) rfl | exact QV.load_varN T rfl rfl rfl rfl rfl (by repeat first | exact At.head _ _ | apply At.tail) (by exact (rfl : _ = [_, _, _])) rfl | exact QV.load_elem T rfl rfl rfl rfl (by assumption) (by first | exact map_get _ _ (by omega) | assumption)) ?_
  refine RD.q rfl rfl (Gd.yes rfl rfl) (by first | exact QV.load_var1 T rfl rfl rfl rfl (by repeat first | exact At.head _ _ | apply At.tail) rfl | exact QV.load_varN T rfl rfl rfl rfl rfl (by repeat first | exact At.head _ _ | apply At.tail) (by exact (rfl : _ = [_, _, _])) rfl | exact QV.load_elem T rfl rfl rfl rfl (by assumption) (by first | exact map_get _ _ (by omega) | assumption)) ?_
  refine RD.q rfl rfl (Gd.yes rfl rfl) (by first | exact QV.eqT rfl rfl rfl (rfl) | exact QV.as (v' := .bool true) (QV.eqd T PL rfl rfl rfl Try.eqGuardType23 rfl) (by simp)) ?_
  refine RD.q rfl rfl (Gd.none rfl) (pev_sound T (by conv => lhs; whnf; arg 1; whnf)) ?_
  refine RD.q rfl rfl (Gd.none rfl) (pev_sound T (by conv => lhs; whnf; arg 1; whnf)) ?_
  refine RD.q rfl rfl (Gd.yes rfl rfl) (pev_sound T (by conv => lhs; whnf; arg 1; whnf)) ?_
  refine RD.q rfl rfl (Gd.yes rfl rfl) (pev_sound T (by conv => lhs; whnf; arg 1; whnf)) ?_
  refine RD.q rfl rfl (Gd.yes rfl rfl) (by first | exact QV.eqT rfl rfl rfl (rfl) | exact QV.as (v' := .bool true) (QV.eqd T PL rfl rfl rfl Try.eqGuardType26 rfl) (by simp)) ?_
  refine RD.q rfl rfl (Gd.none rfl) (pev_sound T (by conv => lhs; whnf; arg 1; whnf)) ?_
  refine RD.q rfl rfl (Gd.none rfl) (pev_sound T (by conv => lhs; whnf; arg 1; whnf)) ?_
  refine RD.k rfl rfl ?_
  refine hK8 _ _ _ ?_
  refine SW.ret ?_
  refine retQ.ret (H' := H) (RVs.tmp (by conv => lhs; whnf) RVs.nil) (fun w hw => Sat.sub (by repeat first | exact List.Sublist.refl _ | apply List.Sublist.cons_cons | apply List.Sublist.cons) hw) ?_
  clear hK8 K8 hK7 K7 hK6 K6 hK5 K5 hK4 K4 hK3 K3 hK2 K2 hK1 K1 hK0 K0
  exact ⟨rfl, rfl⟩
theorem okS_true {a b : Int} {c : Bool} (h : okS a b c = true) : 0 ≤ a ∧ a ≤ 263 ∧ 0 ≤ b ∧ b ≤ 255 ∧ c = decide (255 < a) := by
  simp only [okS, Bool.and_eq_true, decide_eq_true_eq, beq_iff_eq] at h
  exact ⟨h.1.1.1.1, h.1.1.1.2, h.1.1.2, h.1.2, h.2⟩
theorem nexts {w0 : World} {H : List Chunk} (a b e : Int) (c : Bool) : SC Try.prog w0 3 #[.agg #[.int .i64 a, .int .i64 b, .bool c], .int .i64 e] H (fun v H' => v = .bool true ∧ H' = H) := by
  cases h : okS a b c with
  | false => exact nexts_bad a b e c h
  | true =>
    obtain ⟨h1, h2, h3, h4, rfl⟩ := okS_true h
    by_cases he : 1 ≤ e ∧ e ≤ 6
    · exact nexts_ok a b e he.1 he.2 h1 h2 h3 h4
    · exact nexts_arg a b e (by omega) h1 h2 h3 h4
end Go.Proofs.Ytnlifdnfkmlfbaa.M
