import Derived.Test.YtgdnanfnmaafoaaProg
import Derived.Test.YtgdnanfnmaafoaaP15
set_option linter.unusedVariables false
set_option linter.unusedSimpArgs false
namespace Go.Proofs.Ytgdnanfnmaafoaa.M
open Go Go.Sep Go.Proofs
set_option maxRecDepth 10000
set_option maxHeartbeats 2000000
noncomputable def T : Tab Try.prog := ⟨Try.prog.info?, Try.prog.underlying, fun _ _ h => h, fun _ _ h => h⟩
theorem mixed : Try.prog.follows .mixedOrders = true := by kernel_rfl
theorem fun3 : Fun Try.prog 3 := Fun.mk Try.func3 (by kernel_rfl) (by kernel_rfl)
theorem fun4 : Fun Try.prog 4 := Fun.mk Try.func4 (by kernel_rfl) (by kernel_rfl)
theorem fun5 : Fun Try.prog 5 := Fun.mk Try.func5 (by kernel_rfl) (by kernel_rfl)
theorem fun6 : Fun Try.prog 6 := Fun.mk Try.func6 (by kernel_rfl) (by kernel_rfl)
theorem fun7 : Fun Try.prog 7 := Fun.mk Try.func7 (by kernel_rfl) (by kernel_rfl)
theorem fun8 : Fun Try.prog 8 := Fun.mk Try.func8 (by kernel_rfl) (by kernel_rfl)
theorem fun9 : Fun Try.prog 9 := Fun.mk Try.func9 (by kernel_rfl) (by kernel_rfl)
theorem fun10 : Fun Try.prog 10 := Fun.mk Try.func10 (by kernel_rfl) (by kernel_rfl)
theorem fun11 : Fun Try.prog 11 := Fun.mk Try.func11 (by kernel_rfl) (by kernel_rfl)
theorem fun12 : Fun Try.prog 12 := Fun.mk Try.func12 (by kernel_rfl) (by kernel_rfl)
theorem fun13 : Fun Try.prog 13 := Fun.mk Try.func13 (by kernel_rfl) (by kernel_rfl)
theorem fun14 : Fun Try.prog 14 := Fun.mk Try.func14 (by kernel_rfl) (by kernel_rfl)
theorem fun15 : Fun Try.prog 15 := Fun.mk Try.func15 (by kernel_rfl) (by kernel_rfl)
theorem fun16 : Fun Try.prog 16 := Fun.mk Try.func16 (by kernel_rfl) (by kernel_rfl)
theorem fun17 : Fun Try.prog 17 := Fun.mk Try.func17 (by kernel_rfl) (by kernel_rfl)
theorem fun18 : Fun Try.prog 18 := Fun.mk Try.func18 (by kernel_rfl) (by kernel_rfl)
theorem fun19 : Fun Try.prog 19 := Fun.mk Try.func19 (by kernel_rfl) (by kernel_rfl)
theorem fun20 : Fun Try.prog 20 := Fun.mk Try.func20 (by kernel_rfl) (by kernel_rfl)
theorem fun21 : Fun Try.prog 21 := Fun.mk Try.func21 (by kernel_rfl) (by kernel_rfl)
theorem fun22 : Fun Try.prog 22 := Fun.mk Try.func22 (by kernel_rfl) (by kernel_rfl)
theorem fun23 : Fun Try.prog 23 := Fun.mk Try.func23 (by kernel_rfl) (by kernel_rfl)
theorem fun24 : Fun Try.prog 24 := Fun.mk Try.func24 (by kernel_rfl) (by kernel_rfl)
theorem fun25 : Fun Try.prog 25 := Fun.mk Try.func25 (by kernel_rfl) (by kernel_rfl)
theorem fun26 : Fun Try.prog 26 := Fun.mk Try.func26 (by kernel_rfl) (by kernel_rfl)
theorem fun27 : Fun Try.prog 27 := Fun.mk Try.func27 (by kernel_rfl) (by kernel_rfl)
theorem fun28 : Fun Try.prog 28 := Fun.mk Try.func28 (by kernel_rfl) (by kernel_rfl)
theorem fun29 : Fun Try.prog 29 := Fun.mk Try.func29 (by kernel_rfl) (by kernel_rfl)
theorem fun30 : Fun Try.prog 30 := Fun.mk Try.func30 (by kernel_rfl) (by kernel_rfl)
theorem fun31 : Fun Try.prog 31 := Fun.mk Try.func31 (by kernel_rfl) (by kernel_rfl)
theorem fun32 : Fun Try.prog 32 := Fun.mk Try.func32 (by kernel_rfl) (by kernel_rfl)
theorem fun33 : Fun Try.prog 33 := Fun.mk Try.func33 (by kernel_rfl) (by kernel_rfl)
theorem fun34 : Fun Try.prog 34 := Fun.mk Try.func34 (by kernel_rfl) (by kernel_rfl)
theorem fun35 : Fun Try.prog 35 := Fun.mk Try.func35 (by kernel_rfl) (by kernel_rfl)
theorem fun36 : Fun Try.prog 36 := Fun.mk Try.func36 (by kernel_rfl) (by kernel_rfl)
theorem fun37 : Fun Try.prog 37 := Fun.mk Try.func37 (by kernel_rfl) (by kernel_rfl)
theorem fun38 : Fun Try.prog 38 := Fun.mk Try.func38 (by kernel_rfl) (by kernel_rfl)
theorem fun39 : Fun Try.prog 39 := Fun.mk Try.func39 (by kernel_rfl) (by kernel_rfl)
theorem fun40 : Fun Try.prog 40 := Fun.mk Try.func40 (by kernel_rfl) (by kernel_rfl)
theorem fun41 : Fun Try.prog 41 := Fun.mk Try.func41 (by kernel_rfl) (by kernel_rfl)
theorem fun42 : Fun Try.prog 42 := Fun.mk Try.func42 (by kernel_rfl) (by kernel_rfl)
theorem isNaN1 {w0 : World} {H : List Chunk} (z : Int) : SC Try.prog w0 42 #[.int .i64 z] H (fun v H' => v = .bool false ∧ H' = H) := by
 refine SC.enter Try.func42 rfl (Nat.le_of_ble_eq_true rfl) ?_
 refine SW.seq_k fun K0 hK0 => ?_
 refine SW.region _ _ _ _ ?_
 refine RL.p T ?_
 refine RL.nil _ _ _ _ ?_
 refine hK0 _ _ _ ?_
 refine SW.seq_k fun K1 hK1 => ?_
 refine SW.region _ _ _ _ ?_
 refine RL.p T ?_
 refine RL.p T ?_
 refine RL.p T ?_
 refine RL.p T ?_
 refine RL.nil _ _ _ _ ?_
 refine hK1 _ _ _ ?_
 refine SW.ret ?_
 refine retQ.rr (H) ?_
 clear hK1 K1 hK0 K0
 refine ⟨boolE ?_, rfl⟩; simp
theorem isNaN2 {w0 : World} {H : List Chunk} (z : Int) : SC Try.prog w0 41 #[.int .i64 z] H (fun v H' => v = .bool false ∧ H' = H) := by
 refine SC.enter Try.func41 rfl (Nat.le_of_ble_eq_true rfl) ?_
 refine SW.seq_k fun K0 hK0 => ?_
 refine SW.region _ _ _ _ ?_
 refine RL.p T ?_
 refine RL.nil _ _ _ _ ?_
 refine hK0 _ _ _ ?_
 refine SW.seq_k fun K1 hK1 => ?_
 refine SW.region _ _ _ _ ?_
 refine RL.p T ?_
 refine RL.p T ?_
 refine RL.p T ?_
 refine RL.p T ?_
 refine RL.nil _ _ _ _ ?_
 refine hK1 _ _ _ ?_
 refine SW.ret ?_
 refine retQ.rr (H) ?_
 clear hK1 K1 hK0 K0
 refine ⟨boolE ?_, rfl⟩; simp
theorem less {w0 : World} {H : List Chunk} (x y : Int) : SC Try.prog w0 40 #[.int .i64 x, .int .i64 y] H (fun v H' => v = .bool (decide (x < y)) ∧ H' = H) := by
 refine SC.enter Try.func40 rfl (Nat.le_of_ble_eq_true rfl) ?_
 refine SW.seq_k fun K0 hK0 => ?_
 refine SW.region _ _ _ _ ?_
 refine RL.p T ?_
 refine RL.nil _ _ _ _ ?_
 refine hK0 _ _ _ ?_
 refine SW.seq_k fun K1 hK1 => ?_
 refine SW.region _ _ _ _ ?_
 refine RL.p T ?_
 refine RL.c fun42 (fun hs => isNaN1 x) ?_
 rintro _ _ ⟨rfl, e⟩; obtain rfl := e.symm
 refine RL.p T ?_
 refine RL.guard_no rfl rfl rfl ?_
 refine RL.guard_no rfl rfl rfl ?_
 refine RL.guard_no rfl rfl rfl ?_
 refine RL.p T ?_
 refine RL.p T ?_
 refine RL.p T ?_
 refine RL.p T ?_
 refine RL.p T ?_
 refine RL.p T ?_
 refine RL.p T ?_
 refine RL.nil _ _ _ _ ?_
 refine hK1 _ _ _ ?_
 refine SW.ret ?_
 refine retQ.rr (H) ?_
 clear hK1 K1 hK0 K0
 exact ⟨rfl, rfl⟩
theorem bsearch {w0 : World} {H : List Chunk} (sa : Option Addr) (c : Nat) (hR : Rd w0 H sa 16 c 1 (FDT.map (.int .i64))) (t : Int) : SC Try.prog w0 38 #[.slice sa 16 c, .int .i64 t] H (fun v H' => v = .tuple #[.int .i64 (fdUp t), .bool (decide (fdUp t < 16) && decide (fdSize (fdUp t) = t))] ∧ H' = H) := by
 refine SC.enter Try.func38 rfl (Nat.le_of_ble_eq_true rfl) ?_
 refine SW.seq_k fun K0 hK0 => ?_
 refine SW.region _ _ _ _ ?_
 refine RL.p T ?_
 refine RL.p T ?_
 refine RL.nil _ _ _ _ ?_
 refine hK0 _ _ _ ?_
 refine SW.seq_k fun K1 hK1 => ?_
 refine SW.region _ _ _ _ ?_
 refine RL.p T ?_
 refine RL.p T ?_
 refine RL.p T ?_
 refine RL.nil _ _ _ _ ?_
 refine hK1 _ _ _ ?_
 refine SW.seq_k fun K2 hK2 => ?_
 refine SW.region _ _ _ _ ?_
 refine RL.p T ?_
 refine RL.p T ?_
 refine RL.p T ?_
 refine RL.nil _ _ _ _ ?_
 refine hK2 _ _ _ ?_
 refine SW.seq_k fun K3 hK3 => ?_
 refine SW.block ?_
 refine SW.loopM (fun frB mm fr ds HH => ∃ (i j : Nat), mm = j - i ∧ (i ≤ j ∧ j ≤ 16 ∧ (∀ q : Nat, q < i → fdSize q < t) ∧ (∀ q : Nat, j ≤ q → q < 16 → t ≤ fdSize q)) ∧ FrIs [7, 8, 9, 13, 14, 15, 16, 17, 18, 19, 20, 21, 22, 23, 24, 25, 26, 27, 28, 29, 30] frB fr [(7, .int .i64 i), (8, .int .i64 j)] ∧ ds = [] ∧ HH = H) (n := 16 - 0) ?_ ?_
 ·exact ⟨0, 16, rfl, ⟨by omega, by omega, fun q h => absurd h (Nat.not_lt_zero _), fun q h1 h2 => by omega⟩, (.consI rfl (by first | omega | rfl) (.consI rfl (by first | omega | rfl) (.nil (by repeat first | exact Mx.refl | exact Mx.mix | refine Mx.put rfl ?_ | refine Mx.upd rfl ?_ | refine Mx.updl rfl ?_ | refine Mx.fin rfl ?_ | refine Mx.inner rfl ?_ | refine Mx.none ?_)))), rfl, rfl⟩
 ·rintro mm fr ds HH ⟨i, j, rfl, ⟨hij, hj, hl, hg⟩, hFr, rfl, eHH⟩
  obtain rfl := eHH.symm
  obtain ⟨frU, rfl⟩ := hFr.eq
  clear hFr
  refine SW.seq_k fun K4 hK4 => ?_
  refine SW.seq_k fun K5 hK5 => ?_
  refine SW.region _ _ _ _ ?_
  refine RL.p T ?_
  refine RL.p T ?_
  refine RL.p T ?_
  refine RL.nil _ _ _ _ ?_
  refine hK5 _ _ _ ?_
  refine SW.cs (fun hc0 => ?_) (fun hc0 => ?_)
  ·skip
   refine SW.skip ?_
   refine hK4 _ _ _ ?_
   refine SW.block ?_
   refine SW.seq_k fun K6 hK6 => ?_
   refine SW.region _ _ _ _ ?_
   refine RL.p T ?_
   refine RL.p T ?_
   first | refine RL.ar ?_ | refine RL.p T ?_
   first | refine RL.cv T ?_ | refine RL.p T ?_ | refine RL.ts T ?_
   first | refine RL.q (QV.shrP rfl rfl rfl (by exact (rfl : _ = ((_ : Nat) : Int))) (by omega) rfl) ?_ | refine RL.q (QV.shift rfl rfl rfl (by omega) (.inr ⟨rfl, rfl⟩)) ?_
   first | refine RL.cv T ?_ | refine RL.p T ?_ | refine RL.ts T ?_
   rw [show ((i : Int) + j) / 2 ^ 1 = (((i + j) / 2 : Nat) : Int) by omega]
   refine RL.p T ?_
   refine RL.nil _ _ _ _ ?_
   refine hK6 _ _ _ ?_
   refine SW.seq_k fun K7 hK7 => ?_
   refine SW.region _ _ _ _ ?_
   refine RL.p T ?_
   refine RL.p T ?_
   refine RL.ix T ?_
   refine RL.le T ?_ (hv := (map_as (by show _ < 16; omega) (fdt_get _ (by omega))))
   refine RL.p T ?_
   refine RL.c fun40 (fun hs => less _ t) ?_
   rintro _ _ ⟨rfl, e⟩; obtain rfl := e.symm
   refine RL.nil _ _ _ _ ?_
   refine hK7 _ _ _ ?_
   refine SW.cs (fun hc1 => ?_) (fun hc1 => ?_)
   ·skip
    refine SW.region _ _ _ _ ?_
    refine RL.p T ?_
    first | refine RL.ar ?_ | refine RL.p T ?_
    refine RL.p T ?_
    refine RL.nil _ _ _ _ ?_
    first
      | exact ⟨j - ((i + j) / 2 + 1), (by omega), (i + j) / 2 + 1, j, (by rfl), ⟨by omega, hj, fun q hq => Int.lt_of_le_of_lt (fd_le (b := (i + j) / 2) (by omega) (by omega)) hc1, hg⟩, (.consI rfl (by first | omega | rfl) (.consI rfl (by first | omega | rfl) (.nil (by repeat first | exact Mx.refl | exact Mx.mix | refine Mx.put rfl ?_ | refine Mx.upd rfl ?_ | refine Mx.updl rfl ?_ | refine Mx.fin rfl ?_ | refine Mx.inner rfl ?_ | refine Mx.none ?_)))), rfl, rfl⟩
      | exact ⟨(i + j) / 2 - i, (by omega), i, (i + j) / 2, (by rfl), ⟨by omega, by omega, hl, fun q h1 h2 => Int.le_trans hc1 (fd_le (by omega) (by omega))⟩, (.consI rfl (by first | omega | rfl) (.consI rfl (by first | omega | rfl) (.nil (by repeat first | exact Mx.refl | exact Mx.mix | refine Mx.put rfl ?_ | refine Mx.upd rfl ?_ | refine Mx.updl rfl ?_ | refine Mx.fin rfl ?_ | refine Mx.inner rfl ?_ | refine Mx.none ?_)))), rfl, rfl⟩
   ·skip
    refine SW.region _ _ _ _ ?_
    refine RL.p T ?_
    refine RL.p T ?_
    refine RL.nil _ _ _ _ ?_
    first
      | exact ⟨j - ((i + j) / 2 + 1), (by omega), (i + j) / 2 + 1, j, (by rfl), ⟨by omega, hj, fun q hq => Int.lt_of_le_of_lt (fd_le (b := (i + j) / 2) (by omega) (by omega)) hc1, hg⟩, (.consI rfl (by first | omega | rfl) (.consI rfl (by first | omega | rfl) (.nil (by repeat first | exact Mx.refl | exact Mx.mix | refine Mx.put rfl ?_ | refine Mx.upd rfl ?_ | refine Mx.updl rfl ?_ | refine Mx.fin rfl ?_ | refine Mx.inner rfl ?_ | refine Mx.none ?_)))), rfl, rfl⟩
      | exact ⟨(i + j) / 2 - i, (by omega), i, (i + j) / 2, (by rfl), ⟨by omega, by omega, hl, fun q h1 h2 => Int.le_trans hc1 (fd_le (by omega) (by omega))⟩, (.consI rfl (by first | omega | rfl) (.consI rfl (by first | omega | rfl) (.nil (by repeat first | exact Mx.refl | exact Mx.mix | refine Mx.put rfl ?_ | refine Mx.upd rfl ?_ | refine Mx.updl rfl ?_ | refine Mx.fin rfl ?_ | refine Mx.inner rfl ?_ | refine Mx.none ?_)))), rfl, rfl⟩
  ·skip
   refine SW.exit ?_
   refine hK3 _ _ _ ?_
   refine SW.seq_k fun K8 hK8 => ?_
   refine SW.region _ _ _ _ ?_
   refine RL.p T ?_
   refine RL.p T ?_
   refine RL.p T ?_
   refine RL.p T ?_
   refine RL.p T ?_
   refine RL.join (fr1 := ?_) 17 35 true [36, 37, 38, 39, 40, 41, 42, 43, 44, 45, 46, 47, 48, 49, 50, 51, 52] (fun hs0 hj => ?_) ?_ ?_
   rotate_left
   ·have hs0j := hs0
    try simp only [decide_eq_true_eq, Bool.not_eq_true', decide_eq_false_iff_not, Bool.not_eq_false', Int.not_lt, Int.not_le, Int.toNat_natCast, Bool.and_eq_true, Bool.or_eq_true, Bool.and_eq_false_iff, Bool.or_eq_false_iff] at hs0
    refine RL.p T ?_
    refine RL.p T ?_
    refine RL.ix T ?_
    refine RL.le T ?_ (hv := (map_as (by show _ < 16; omega) (fdt_get _ (by omega))))
    refine RL.p T ?_
    refine RL.p T ?_
    refine RL.p T ?_
    refine RL.join (fr1 := ?_) 9 42 false [43, 44, 45, 46, 47, 48, 49, 50, 51] (fun hs1 hj => ?_) ?_ ?_
    rotate_left
    ·have hs1j := hs1
     try simp only [decide_eq_true_eq, Bool.not_eq_true', decide_eq_false_iff_not, Bool.not_eq_false', Int.not_lt, Int.not_le, Int.toNat_natCast, Bool.and_eq_true, Bool.or_eq_true, Bool.and_eq_false_iff, Bool.or_eq_false_iff] at hs1
     refine RL.p T ?_
     refine RL.p T ?_
     refine RL.ix T ?_
     refine RL.le T ?_ (hv := (map_as (by show _ < 16; omega) (fdt_get _ (by omega))))
     refine RL.c fun41 (fun hs => isNaN2 _) ?_
     rintro _ _ ⟨rfl, e⟩; obtain rfl := e.symm
     refine RL.p T ?_
     refine RL.guard_no rfl rfl rfl ?_
     refine RL.guard_no rfl rfl rfl ?_
     refine RL.p T ?_
     exact hj
    ·repeat first | exact Mx.refl | exact Mx.mix | refine Mx.put rfl ?_ | refine Mx.upd rfl ?_ | refine Mx.updl rfl ?_ | refine Mx.fin rfl ?_ | refine Mx.inner rfl ?_ | refine Mx.none ?_
    refine RL.or ?_
    exact hj
   ·repeat first | exact Mx.refl | exact Mx.mix | refine Mx.put rfl ?_ | refine Mx.upd rfl ?_ | refine Mx.updl rfl ?_ | refine Mx.fin rfl ?_ | refine Mx.inner rfl ?_ | refine Mx.none ?_
   refine RL.and ?_
   refine RL.p T ?_
   refine RL.p T ?_
   refine RL.nil _ _ _ _ ?_
   refine hK8 _ _ _ ?_
   refine SW.ret ?_
   refine retQ.rr (H) ?_
   clear hK8 K8 hK5 K5 hK4 K4 hK3 K3 hK2 K2 hK1 K1 hK0 K0
   obtain rfl : i = j := by omega
   have he := bin_end hj hl hg
   refine ⟨?_, rfl⟩
   rw [← he]
   show Value.tuple #[_, .bool _] = _
   congr 3
   by_cases h : i < 16 <;> simp <;> omega
theorem of2 {w0 : World} {H : List Chunk} (k : Int) (hk : k = 2) : SC Try.prog w0 37 #[.int .i64 k] H (fun v H' => ∃ b, v = .agg #[.slice (some ⟨b, 0, none⟩) 16 16, .int .i64 0, .int .i64 0] ∧ H' = .row (some ⟨b, 0, none⟩) 16 16 3 1 (FDT.map (.int .i64)) :: H) := by
 refine SC.enter Try.func37 rfl (Nat.le_of_ble_eq_true rfl) ?_
 refine SW.seq_k fun K0 hK0 => ?_
 refine SW.region _ _ _ _ ?_
 refine RL.s ?_
 refine NV.alloc T rfl rfl rfl (by exact (rfl : _ = [_, _, _])) ?_
 intro b2_0
 refine RL.nil _ _ _ _ ?_
 refine hK0 _ _ _ ?_
 refine SW.seq_k fun K1 hK1 => ?_
 refine SW.seq_k fun K2 hK2 => ?_
 refine SW.region _ _ _ _ ?_
 refine RL.p T ?_
 refine RL.nil _ _ _ _ ?_
 refine hK2 _ _ _ ?_
 refine SW.block ?_
 refine SW.seq_k fun K3 hK3 => ?_
 refine SW.region _ _ _ _ ?_
 refine RL.p T ?_
 refine RL.p T ?_
 refine RL.nil _ _ _ _ ?_
 refine hK3 _ _ _ ?_
 refine SW.cs (fun hc0 => ?_) (fun hc0 => ?_)
 ·skip
  first
   | (exfalso; omega)
   | (
    refine SW.seq_k fun K4 hK4 => ?_
    refine SW.region _ _ _ _ ?_
    refine RL.s ?_
    first | refine NV.buildc T rfl (rfl : _ = some [_, _, _]) ?_ | refine NV.pure T (rfl : _ = some (Value.agg #[_, _, _])) ?_
    refine RL.s ?_
    first
      | refine NV.store_var1 T rfl rfl rfl rfl (by conv => lhs; whnf) rfl (by repeat first | exact At.head _ _ | assumption | exact At.put (by assumption) _ | apply At.tail | apply At.app) rfl (by exact (rfl : _ = [_, _, _])) ?_
      | refine NV.store_var T rfl rfl rfl (by exact (rfl : _ = [_, _, _])) rfl rfl (by repeat first | exact At.head _ _ | assumption | exact At.put (by assumption) _ | apply At.tail | apply At.app) (Nat.le_of_ble_eq_true rfl) (by exact (rfl : _ = [_, _, _])) ?_
      | refine NV.store_elem T rfl rfl rfl rfl (by conv => lhs; whnf) rfl (by repeat first | exact At.head _ _ | assumption | exact At.put (by assumption) _ | apply At.tail | apply At.app) (by omega) ?_
    refine RL.nil _ _ _ _ ?_
    refine hK4 _ _ _ ?_
    refine SW.ret ?_
    refine retQ.ret (H' := (.row (some ⟨b9_1, 0, none⟩) 16 16 3 1 (FDT.map (.int .i64)) :: H)) (by first | exact RVs.var1 T rfl rfl rfl (by repeat first | exact At.head _ _ | assumption | exact At.put (by assumption) _ | apply At.tail | apply At.app) rfl RVs.nil | exact RVs.varN T rfl rfl rfl rfl (by repeat first | exact At.head _ _ | assumption | exact At.put (by assumption) _ | apply At.tail | apply At.app) (by exact (rfl : _ = [_, _, _])) rfl RVs.nil) (fun w hw => Sat.sub (by repeat first | exact List.Sublist.refl _ | apply List.Sublist.cons_cons | apply List.Sublist.cons | exact List.sublist_append_right _ _ | refine List.Sublist.trans ?_ (List.sublist_append_right _ _)) hw) ?_
    clear hK4 K4 hK3 K3 hK2 K2 hK1 K1 hK0 K0
    refine ⟨_, rfl, ?_⟩
    simp only [FDT, List.map_cons, List.map_nil]
    )
 ·skip
  first
   | (exfalso; omega)
   | (
    refine SW.seq_k fun K5 hK5 => ?_
    refine SW.region _ _ _ _ ?_
    refine RL.p T ?_
    refine RL.p T ?_
    refine RL.nil _ _ _ _ ?_
    refine hK5 _ _ _ ?_
    refine SW.cs (fun hc1 => ?_) (fun hc1 => ?_)
    ·skip
     first
      | (exfalso; omega)
      | (
       refine SW.seq_k fun K6 hK6 => ?_
       refine SW.region _ _ _ _ ?_
       refine RL.bs T rfl rfl rfl (by exact (rfl : _ = some [_, _, _, _, _, _, _, _, _, _, _, _, _, _, _, _])) (fun b9_1 => ?_)
       refine RL.s ?_
       first | refine NV.buildc T rfl (rfl : _ = some [_, _, _]) ?_ | refine NV.pure T (rfl : _ = some (Value.agg #[_, _, _])) ?_
       refine RL.s ?_
       first
         | refine NV.store_var1 T rfl rfl rfl rfl (by conv => lhs; whnf) rfl (by repeat first | exact At.head _ _ | assumption | exact At.put (by assumption) _ | apply At.tail | apply At.app) rfl (by exact (rfl : _ = [_, _, _])) ?_
         | refine NV.store_var T rfl rfl rfl (by exact (rfl : _ = [_, _, _])) rfl rfl (by repeat first | exact At.head _ _ | assumption | exact At.put (by assumption) _ | apply At.tail | apply At.app) (Nat.le_of_ble_eq_true rfl) (by exact (rfl : _ = [_, _, _])) ?_
         | refine NV.store_elem T rfl rfl rfl rfl (by conv => lhs; whnf) rfl (by repeat first | exact At.head _ _ | assumption | exact At.put (by assumption) _ | apply At.tail | apply At.app) (by omega) ?_
       refine RL.nil _ _ _ _ ?_
       refine hK6 _ _ _ ?_
       refine SW.ret ?_
       refine retQ.ret (H' := (.row (some ⟨b9_1, 0, none⟩) 16 16 3 1 (FDT.map (.int .i64)) :: H)) (by first | exact RVs.var1 T rfl rfl rfl (by repeat first | exact At.head _ _ | assumption | exact At.put (by assumption) _ | apply At.tail | apply At.app) rfl RVs.nil | exact RVs.varN T rfl rfl rfl rfl (by repeat first | exact At.head _ _ | assumption | exact At.put (by assumption) _ | apply At.tail | apply At.app) (by exact (rfl : _ = [_, _, _])) rfl RVs.nil) (fun w hw => Sat.sub (by repeat first | exact List.Sublist.refl _ | apply List.Sublist.cons_cons | apply List.Sublist.cons | exact List.sublist_append_right _ _ | refine List.Sublist.trans ?_ (List.sublist_append_right _ _)) hw) ?_
       clear hK6 K6 hK5 K5 hK3 K3 hK2 K2 hK1 K1 hK0 K0
       refine ⟨_, rfl, ?_⟩
       simp only [FDT, List.map_cons, List.map_nil]
       )
    ·skip
     first
      | (exfalso; omega)
      | (
       refine SW.seq_k fun K7 hK7 => ?_
       refine SW.region _ _ _ _ ?_
       refine RL.p T ?_
       refine RL.p T ?_
       refine RL.nil _ _ _ _ ?_
       refine hK7 _ _ _ ?_
       refine SW.cs (fun hc2 => ?_) (fun hc2 => ?_)
       ·skip
        first
         | (exfalso; omega)
         | (
          refine SW.seq_k fun K8 hK8 => ?_
          refine SW.region _ _ _ _ ?_
          refine RL.s ?_
          first | refine NV.buildc T rfl (rfl : _ = some [_, _, _]) ?_ | refine NV.pure T (rfl : _ = some (Value.agg #[_, _, _])) ?_
          refine RL.s ?_
          first
            | refine NV.store_var1 T rfl rfl rfl rfl (by conv => lhs; whnf) rfl (by repeat first | exact At.head _ _ | assumption | exact At.put (by assumption) _ | apply At.tail | apply At.app) rfl (by exact (rfl : _ = [_, _, _])) ?_
            | refine NV.store_var T rfl rfl rfl (by exact (rfl : _ = [_, _, _])) rfl rfl (by repeat first | exact At.head _ _ | assumption | exact At.put (by assumption) _ | apply At.tail | apply At.app) (Nat.le_of_ble_eq_true rfl) (by exact (rfl : _ = [_, _, _])) ?_
            | refine NV.store_elem T rfl rfl rfl rfl (by conv => lhs; whnf) rfl (by repeat first | exact At.head _ _ | assumption | exact At.put (by assumption) _ | apply At.tail | apply At.app) (by omega) ?_
          refine RL.nil _ _ _ _ ?_
          refine hK8 _ _ _ ?_
          refine SW.ret ?_
          refine retQ.ret (H' := (.row (some ⟨b9_1, 0, none⟩) 16 16 3 1 (FDT.map (.int .i64)) :: H)) (by first | exact RVs.var1 T rfl rfl rfl (by repeat first | exact At.head _ _ | assumption | exact At.put (by assumption) _ | apply At.tail | apply At.app) rfl RVs.nil | exact RVs.varN T rfl rfl rfl rfl (by repeat first | exact At.head _ _ | assumption | exact At.put (by assumption) _ | apply At.tail | apply At.app) (by exact (rfl : _ = [_, _, _])) rfl RVs.nil) (fun w hw => Sat.sub (by repeat first | exact List.Sublist.refl _ | apply List.Sublist.cons_cons | apply List.Sublist.cons | exact List.sublist_append_right _ _ | refine List.Sublist.trans ?_ (List.sublist_append_right _ _)) hw) ?_
          clear hK8 K8 hK7 K7 hK5 K5 hK3 K3 hK2 K2 hK1 K1 hK0 K0
          refine ⟨_, rfl, ?_⟩
          simp only [FDT, List.map_cons, List.map_nil]
          )
       ·skip
        first
         | (exfalso; omega)
         | (
          refine SW.skip ?_
          refine hK1 _ _ _ ?_
          refine SW.seq_k fun K9 hK9 => ?_
          refine SW.region _ _ _ _ ?_
          refine RL.s ?_
          first | refine NV.buildc T rfl (rfl : _ = some [_, _, _]) ?_ | refine NV.pure T (rfl : _ = some (Value.agg #[_, _, _])) ?_
          refine RL.s ?_
          first
            | refine NV.store_var1 T rfl rfl rfl rfl (by conv => lhs; whnf) rfl (by repeat first | exact At.head _ _ | assumption | exact At.put (by assumption) _ | apply At.tail | apply At.app) rfl (by exact (rfl : _ = [_, _, _])) ?_
            | refine NV.store_var T rfl rfl rfl (by exact (rfl : _ = [_, _, _])) rfl rfl (by repeat first | exact At.head _ _ | assumption | exact At.put (by assumption) _ | apply At.tail | apply At.app) (Nat.le_of_ble_eq_true rfl) (by exact (rfl : _ = [_, _, _])) ?_
            | refine NV.store_elem T rfl rfl rfl rfl (by conv => lhs; whnf) rfl (by repeat first | exact At.head _ _ | assumption | exact At.put (by assumption) _ | apply At.tail | apply At.app) (by omega) ?_
          refine RL.nil _ _ _ _ ?_
          refine hK9 _ _ _ ?_
          refine SW.ret ?_
          refine retQ.ret (H' := (.row (some ⟨b9_1, 0, none⟩) 16 16 3 1 (FDT.map (.int .i64)) :: H)) (by first | exact RVs.var1 T rfl rfl rfl (by repeat first | exact At.head _ _ | assumption | exact At.put (by assumption) _ | apply At.tail | apply At.app) rfl RVs.nil | exact RVs.varN T rfl rfl rfl rfl (by repeat first | exact At.head _ _ | assumption | exact At.put (by assumption) _ | apply At.tail | apply At.app) (by exact (rfl : _ = [_, _, _])) rfl RVs.nil) (fun w hw => Sat.sub (by repeat first | exact List.Sublist.refl _ | apply List.Sublist.cons_cons | apply List.Sublist.cons | exact List.sublist_append_right _ _ | refine List.Sublist.trans ?_ (List.sublist_append_right _ _)) hw) ?_
          clear hK9 K9 hK7 K7 hK5 K5 hK3 K3 hK2 K2 hK1 K1 hK0 K0
          refine ⟨_, rfl, ?_⟩
          simp only [FDT, List.map_cons, List.map_nil]
          )
       )
    )
theorem ofN {w0 : World} {H : List Chunk} (k : Int) (hk : k ≠ 2) : SC Try.prog w0 37 #[.int .i64 k] H (fun v H' => v = .agg #[.slice none 0 0, .int .i64 (loS k), .int .i64 (hiS k)] ∧ H' = H) := by
 refine SC.enter Try.func37 rfl (Nat.le_of_ble_eq_true rfl) ?_
 refine SW.seq_k fun K0 hK0 => ?_
 refine SW.region _ _ _ _ ?_
 refine RL.s ?_
 refine NV.alloc T rfl rfl rfl (by exact (rfl : _ = [_, _, _])) ?_
 intro b2_0
 refine RL.nil _ _ _ _ ?_
 refine hK0 _ _ _ ?_
 refine SW.seq_k fun K1 hK1 => ?_
 refine SW.seq_k fun K2 hK2 => ?_
 refine SW.region _ _ _ _ ?_
 refine RL.p T ?_
 refine RL.nil _ _ _ _ ?_
 refine hK2 _ _ _ ?_
 refine SW.block ?_
 refine SW.seq_k fun K3 hK3 => ?_
 refine SW.region _ _ _ _ ?_
 refine RL.p T ?_
 refine RL.p T ?_
 refine RL.nil _ _ _ _ ?_
 refine hK3 _ _ _ ?_
 refine SW.cs (fun hc0 => ?_) (fun hc0 => ?_)
 ·skip
  first
   | (exfalso; omega)
   | (
    refine SW.seq_k fun K4 hK4 => ?_
    refine SW.region _ _ _ _ ?_
    refine RL.s ?_
    first | refine NV.buildc T rfl (rfl : _ = some [_, _, _]) ?_ | refine NV.pure T (rfl : _ = some (Value.agg #[_, _, _])) ?_
    refine RL.s ?_
    first
      | refine NV.store_var1 T rfl rfl rfl rfl (by conv => lhs; whnf) rfl (by repeat first | exact At.head _ _ | assumption | exact At.put (by assumption) _ | apply At.tail | apply At.app) rfl (by exact (rfl : _ = [_, _, _])) ?_
      | refine NV.store_var T rfl rfl rfl (by exact (rfl : _ = [_, _, _])) rfl rfl (by repeat first | exact At.head _ _ | assumption | exact At.put (by assumption) _ | apply At.tail | apply At.app) (Nat.le_of_ble_eq_true rfl) (by exact (rfl : _ = [_, _, _])) ?_
      | refine NV.store_elem T rfl rfl rfl rfl (by conv => lhs; whnf) rfl (by repeat first | exact At.head _ _ | assumption | exact At.put (by assumption) _ | apply At.tail | apply At.app) (by omega) ?_
    refine RL.nil _ _ _ _ ?_
    refine hK4 _ _ _ ?_
    refine SW.ret ?_
    refine retQ.ret (H' := H) (by first | exact RVs.var1 T rfl rfl rfl (by repeat first | exact At.head _ _ | assumption | exact At.put (by assumption) _ | apply At.tail | apply At.app) rfl RVs.nil | exact RVs.varN T rfl rfl rfl rfl (by repeat first | exact At.head _ _ | assumption | exact At.put (by assumption) _ | apply At.tail | apply At.app) (by exact (rfl : _ = [_, _, _])) rfl RVs.nil) (fun w hw => Sat.sub (by repeat first | exact List.Sublist.refl _ | apply List.Sublist.cons_cons | apply List.Sublist.cons | exact List.sublist_append_right _ _ | refine List.Sublist.trans ?_ (List.sublist_append_right _ _)) hw) ?_
    clear hK4 K4 hK3 K3 hK2 K2 hK1 K1 hK0 K0
    refine ⟨?_, rfl⟩
    unfold loS hiS
    first
      | (rw [if_pos (by omega), if_pos (by omega)]; rfl)
      | (rw [if_neg (by omega), if_neg (by omega), if_pos (by omega)]; rfl)
      | (rw [if_neg (by omega), if_neg (by omega), if_neg (by omega)]; rfl)
    )
 ·skip
  first
   | (exfalso; omega)
   | (
    refine SW.seq_k fun K5 hK5 => ?_
    refine SW.region _ _ _ _ ?_
    refine RL.p T ?_
    refine RL.p T ?_
    refine RL.nil _ _ _ _ ?_
    refine hK5 _ _ _ ?_
    refine SW.cs (fun hc1 => ?_) (fun hc1 => ?_)
    ·skip
     first
      | (exfalso; omega)
      | (
       refine SW.seq_k fun K6 hK6 => ?_
       refine SW.region _ _ _ _ ?_
       refine RL.bs T rfl rfl rfl (by exact (rfl : _ = some [_, _, _, _, _, _, _, _, _, _, _, _, _, _, _, _])) (fun b9_1 => ?_)
       refine RL.s ?_
       first | refine NV.buildc T rfl (rfl : _ = some [_, _, _]) ?_ | refine NV.pure T (rfl : _ = some (Value.agg #[_, _, _])) ?_
       refine RL.s ?_
       first
         | refine NV.store_var1 T rfl rfl rfl rfl (by conv => lhs; whnf) rfl (by repeat first | exact At.head _ _ | assumption | exact At.put (by assumption) _ | apply At.tail | apply At.app) rfl (by exact (rfl : _ = [_, _, _])) ?_
         | refine NV.store_var T rfl rfl rfl (by exact (rfl : _ = [_, _, _])) rfl rfl (by repeat first | exact At.head _ _ | assumption | exact At.put (by assumption) _ | apply At.tail | apply At.app) (Nat.le_of_ble_eq_true rfl) (by exact (rfl : _ = [_, _, _])) ?_
         | refine NV.store_elem T rfl rfl rfl rfl (by conv => lhs; whnf) rfl (by repeat first | exact At.head _ _ | assumption | exact At.put (by assumption) _ | apply At.tail | apply At.app) (by omega) ?_
       refine RL.nil _ _ _ _ ?_
       refine hK6 _ _ _ ?_
       refine SW.ret ?_
       refine retQ.ret (H' := H) (by first | exact RVs.var1 T rfl rfl rfl (by repeat first | exact At.head _ _ | assumption | exact At.put (by assumption) _ | apply At.tail | apply At.app) rfl RVs.nil | exact RVs.varN T rfl rfl rfl rfl (by repeat first | exact At.head _ _ | assumption | exact At.put (by assumption) _ | apply At.tail | apply At.app) (by exact (rfl : _ = [_, _, _])) rfl RVs.nil) (fun w hw => Sat.sub (by repeat first | exact List.Sublist.refl _ | apply List.Sublist.cons_cons | apply List.Sublist.cons | exact List.sublist_append_right _ _ | refine List.Sublist.trans ?_ (List.sublist_append_right _ _)) hw) ?_
       clear hK6 K6 hK5 K5 hK3 K3 hK2 K2 hK1 K1 hK0 K0
       refine ⟨?_, rfl⟩
       unfold loS hiS
       first
         | (rw [if_pos (by omega), if_pos (by omega)]; rfl)
         | (rw [if_neg (by omega), if_neg (by omega), if_pos (by omega)]; rfl)
         | (rw [if_neg (by omega), if_neg (by omega), if_neg (by omega)]; rfl)
       )
    ·skip
     first
      | (exfalso; omega)
      | (
       refine SW.seq_k fun K7 hK7 => ?_
       refine SW.region _ _ _ _ ?_
       refine RL.p T ?_
       refine RL.p T ?_
       refine RL.nil _ _ _ _ ?_
       refine hK7 _ _ _ ?_
       refine SW.cs (fun hc2 => ?_) (fun hc2 => ?_)
       ·skip
        first
         | (exfalso; omega)
         | (
          refine SW.seq_k fun K8 hK8 => ?_
          refine SW.region _ _ _ _ ?_
          refine RL.s ?_
          first | refine NV.buildc T rfl (rfl : _ = some [_, _, _]) ?_ | refine NV.pure T (rfl : _ = some (Value.agg #[_, _, _])) ?_
          refine RL.s ?_
          first
            | refine NV.store_var1 T rfl rfl rfl rfl (by conv => lhs; whnf) rfl (by repeat first | exact At.head _ _ | assumption | exact At.put (by assumption) _ | apply At.tail | apply At.app) rfl (by exact (rfl : _ = [_, _, _])) ?_
            | refine NV.store_var T rfl rfl rfl (by exact (rfl : _ = [_, _, _])) rfl rfl (by repeat first | exact At.head _ _ | assumption | exact At.put (by assumption) _ | apply At.tail | apply At.app) (Nat.le_of_ble_eq_true rfl) (by exact (rfl : _ = [_, _, _])) ?_
            | refine NV.store_elem T rfl rfl rfl rfl (by conv => lhs; whnf) rfl (by repeat first | exact At.head _ _ | assumption | exact At.put (by assumption) _ | apply At.tail | apply At.app) (by omega) ?_
          refine RL.nil _ _ _ _ ?_
          refine hK8 _ _ _ ?_
          refine SW.ret ?_
          refine retQ.ret (H' := H) (by first | exact RVs.var1 T rfl rfl rfl (by repeat first | exact At.head _ _ | assumption | exact At.put (by assumption) _ | apply At.tail | apply At.app) rfl RVs.nil | exact RVs.varN T rfl rfl rfl rfl (by repeat first | exact At.head _ _ | assumption | exact At.put (by assumption) _ | apply At.tail | apply At.app) (by exact (rfl : _ = [_, _, _])) rfl RVs.nil) (fun w hw => Sat.sub (by repeat first | exact List.Sublist.refl _ | apply List.Sublist.cons_cons | apply List.Sublist.cons | exact List.sublist_append_right _ _ | refine List.Sublist.trans ?_ (List.sublist_append_right _ _)) hw) ?_
          clear hK8 K8 hK7 K7 hK5 K5 hK3 K3 hK2 K2 hK1 K1 hK0 K0
          refine ⟨?_, rfl⟩
          unfold loS hiS
          first
            | (rw [if_pos (by omega), if_pos (by omega)]; rfl)
            | (rw [if_neg (by omega), if_neg (by omega), if_pos (by omega)]; rfl)
            | (rw [if_neg (by omega), if_neg (by omega), if_neg (by omega)]; rfl)
          )
       ·skip
        first
         | (exfalso; omega)
         | (
          refine SW.skip ?_
          refine hK1 _ _ _ ?_
          refine SW.seq_k fun K9 hK9 => ?_
          refine SW.region _ _ _ _ ?_
          refine RL.s ?_
          first | refine NV.buildc T rfl (rfl : _ = some [_, _, _]) ?_ | refine NV.pure T (rfl : _ = some (Value.agg #[_, _, _])) ?_
          refine RL.s ?_
          first
            | refine NV.store_var1 T rfl rfl rfl rfl (by conv => lhs; whnf) rfl (by repeat first | exact At.head _ _ | assumption | exact At.put (by assumption) _ | apply At.tail | apply At.app) rfl (by exact (rfl : _ = [_, _, _])) ?_
            | refine NV.store_var T rfl rfl rfl (by exact (rfl : _ = [_, _, _])) rfl rfl (by repeat first | exact At.head _ _ | assumption | exact At.put (by assumption) _ | apply At.tail | apply At.app) (Nat.le_of_ble_eq_true rfl) (by exact (rfl : _ = [_, _, _])) ?_
            | refine NV.store_elem T rfl rfl rfl rfl (by conv => lhs; whnf) rfl (by repeat first | exact At.head _ _ | assumption | exact At.put (by assumption) _ | apply At.tail | apply At.app) (by omega) ?_
          refine RL.nil _ _ _ _ ?_
          refine hK9 _ _ _ ?_
          refine SW.ret ?_
          refine retQ.ret (H' := H) (by first | exact RVs.var1 T rfl rfl rfl (by repeat first | exact At.head _ _ | assumption | exact At.put (by assumption) _ | apply At.tail | apply At.app) rfl RVs.nil | exact RVs.varN T rfl rfl rfl rfl (by repeat first | exact At.head _ _ | assumption | exact At.put (by assumption) _ | apply At.tail | apply At.app) (by exact (rfl : _ = [_, _, _])) rfl RVs.nil) (fun w hw => Sat.sub (by repeat first | exact List.Sublist.refl _ | apply List.Sublist.cons_cons | apply List.Sublist.cons | exact List.sublist_append_right _ _ | refine List.Sublist.trans ?_ (List.sublist_append_right _ _)) hw) ?_
          clear hK9 K9 hK7 K7 hK5 K5 hK3 K3 hK2 K2 hK1 K1 hK0 K0
          refine ⟨?_, rfl⟩
          unfold loS hiS
          first
            | (rw [if_pos (by omega), if_pos (by omega)]; rfl)
            | (rw [if_neg (by omega), if_neg (by omega), if_pos (by omega)]; rfl)
            | (rw [if_neg (by omega), if_neg (by omega), if_neg (by omega)]; rfl)
          )
       )
    )
theorem codeN {w0 : World} {H : List Chunk} (lo hi n : Int) (l0 : 0 ≤ lo) (l1 : lo ≤ 2048) (h0 : 0 ≤ hi) (h1 : hi ≤ 2048) : SC Try.prog w0 33 #[.agg #[.slice none 0 0, .int .i64 lo, .int .i64 hi], .int .i64 n] H (fun v H' => v = .tuple #[.int .i64 (IntKind.i64.wrap (n - lo)), .bool (decide (lo ≤ n) && decide (n ≤ hi))] ∧ H' = H) := by
 refine SC.enter Try.func33 rfl (Nat.le_of_ble_eq_true rfl) ?_
 refine SW.seq_k fun K0 hK0 => ?_
 refine SW.region _ _ _ _ ?_
 refine RL.s ?_
 refine NV.box rfl (by exact (rfl : _ = [_, _, _])) ?_
 intro b2_0
 refine RL.p T ?_
 refine RL.p T ?_
 refine RL.nil _ _ _ _ ?_
 refine hK0 _ _ _ ?_
 refine SW.seq_k fun K1 hK1 => ?_
 refine SW.seq_k fun K2 hK2 => ?_
 refine SW.region _ _ _ _ ?_
 refine RL.p T ?_
 refine RL.lv1 T ?_
 refine RL.p T ?_
 refine RL.nil _ _ _ _ ?_
 refine hK2 _ _ _ ?_
 refine SW.cs (fun hc0 => ?_) (fun hc0 => ?_)
 ·skip
  exfalso; first | omega | contradiction | (simp at hc0; done)
 ·skip
  first
   | (exfalso; first | omega | contradiction | (simp at hc0; done))
   | (
    refine SW.skip ?_
    refine hK1 _ _ _ ?_
    refine SW.seq_k fun K3 hK3 => ?_
    refine SW.drawQ [(15, 0), (16, 1), (17, 2), (18, 3), (19, 4), (20, 5), (21, 6), (22, 7), (23, 8), (24, 9), (25, 10), (26, 11), (27, 12), (28, 13), (4, 14), (5, 15)] [[], [], [1], [0, 2, 1], [], [], [5], [4, 6, 5], [7, 4, 6, 5], [8, 7, 4, 6, 5], [8, 7, 4, 6, 5], [10, 8, 7, 4, 6, 5], [9, 8, 7, 4, 6, 5, 11, 10], [8, 7, 4, 6, 5, 12, 9, 11, 10], [3, 0, 2, 1, 8, 7, 4, 6, 5], [13, 8, 7, 4, 6, 5, 12, 9, 11, 10, 14, 3, 0, 2, 1]] mixed (by kernel_rfl) (by kernel_rfl) ?_
    refine QL.p T ?_
    refine QL.p T ?_
    refine QL.lv1 T ?_
    refine QL.step (by first | exact Gd.none rfl | exact Gd.yes rfl rfl | exact Gd.yes rfl (congrArg Value.bool (by assumption))) rfl (pev_sound T (by conv => lhs; whnf; arg 1; whnf)) ?_
    refine QL.p T ?_
    refine QL.p T ?_
    refine QL.lv1 T ?_
    refine QL.p T ?_
    refine QL.p T ?_
    refine QL.join (fr1 := ?_) 4 23 true [24, 25, 26, 27] (fun hs0 hj => ?_) ?_ ?_
    rotate_left
    ·have hs0j := hs0
     try simp only [decide_eq_true_eq, Bool.not_eq_true', decide_eq_false_iff_not, Bool.not_eq_false', Int.not_lt, Int.not_le, Int.toNat_natCast, Bool.and_eq_true, Bool.or_eq_true, Bool.and_eq_false_iff, Bool.or_eq_false_iff] at hs0
     refine QL.p T ?_
     refine QL.p T ?_
     refine QL.lv1 T ?_
     refine QL.p T ?_
     exact hj
    ·repeat first | exact Mx.refl | exact Mx.mix | refine Mx.put rfl ?_ | refine Mx.upd rfl ?_ | refine Mx.updl rfl ?_ | refine Mx.fin rfl ?_ | refine Mx.inner rfl ?_ | refine Mx.none ?_
    refine QL.and ?_
    refine QL.p T ?_
    refine QL.p T ?_
    refine QL.nil ?_
    refine hK3 _ _ _ ?_
    refine SW.ret ?_
    refine retQ.rr (H) ?_
    clear hK3 K3 hK2 K2 hK1 K1 hK0 K0
    exact ⟨rfl, rfl⟩
    )
theorem codeT {w0 : World} {H : List Chunk} (p : Addr) (c : Nat) (hR : Rd w0 H (some p) 16 c 1 (FDT.map (.int .i64))) (n : Int) : SC Try.prog w0 33 #[.agg #[.slice (some p) 16 c, .int .i64 0, .int .i64 0], .int .i64 n] H (fun v H' => v = .tuple #[.int .i64 (fdUp n), .bool (decide (fdUp n < 16) && decide (fdSize (fdUp n) = n))] ∧ H' = H) := by
 refine SC.enter Try.func33 rfl (Nat.le_of_ble_eq_true rfl) ?_
 refine SW.seq_k fun K0 hK0 => ?_
 refine SW.region _ _ _ _ ?_
 refine RL.s ?_
 refine NV.box rfl (by exact (rfl : _ = [_, _, _])) ?_
 intro b2_0
 refine RL.p T ?_
 refine RL.p T ?_
 refine RL.nil _ _ _ _ ?_
 refine hK0 _ _ _ ?_
 refine SW.seq_k fun K1 hK1 => ?_
 refine SW.seq_k fun K2 hK2 => ?_
 refine SW.region _ _ _ _ ?_
 refine RL.p T ?_
 refine RL.lv1 T ?_
 refine RL.p T ?_
 refine RL.nil _ _ _ _ ?_
 refine hK2 _ _ _ ?_
 refine SW.cs (fun hc0 => ?_) (fun hc0 => ?_)
 ·skip
  first
   | (exfalso; first | omega | contradiction | (simp at hc0; done))
   | (
    refine SW.seq_k fun K3 hK3 => ?_
    refine SW.region _ _ _ _ ?_
    refine RL.p T ?_
    refine RL.lv1 T ?_
    refine RL.p T ?_
    refine RL.c fun38 (fun hs => bsearch _ c hR.cons n) ?_
    rintro _ _ ⟨rfl, e⟩; obtain rfl := e.symm
    refine RL.p T ?_
    refine RL.p T ?_
    refine RL.p T ?_
    refine RL.p T ?_
    refine RL.nil _ _ _ _ ?_
    refine hK3 _ _ _ ?_
    refine SW.ret ?_
    refine retQ.rr (H) ?_
    clear hK3 K3 hK2 K2 hK1 K1 hK0 K0
    exact ⟨rfl, rfl⟩
    )
 ·skip
  first
   | (exfalso; first | omega | contradiction | (simp at hc0; done))
   | (
    refine SW.skip ?_
    refine hK1 _ _ _ ?_
    refine SW.seq_k fun K4 hK4 => ?_
    refine SW.drawQ [(15, 0), (16, 1), (17, 2), (18, 3), (19, 4), (20, 5), (21, 6), (22, 7), (23, 8), (24, 9), (25, 10), (26, 11), (27, 12), (28, 13), (4, 14), (5, 15)] [[], [], [1], [0, 2, 1], [], [], [5], [4, 6, 5], [7, 4, 6, 5], [8, 7, 4, 6, 5], [8, 7, 4, 6, 5], [10, 8, 7, 4, 6, 5], [9, 8, 7, 4, 6, 5, 11, 10], [8, 7, 4, 6, 5, 12, 9, 11, 10], [3, 0, 2, 1, 8, 7, 4, 6, 5], [13, 8, 7, 4, 6, 5, 12, 9, 11, 10, 14, 3, 0, 2, 1]] mixed (by kernel_rfl) (by kernel_rfl) ?_
    refine QL.p T ?_
    refine QL.p T ?_
    refine QL.lv1 T ?_
    first | refine QL.ar ?_ | refine QL.p T ?_
    refine QL.p T ?_
    refine QL.p T ?_
    refine QL.lv1 T ?_
    refine QL.p T ?_
    refine QL.p T ?_
    refine QL.join (fr1 := ?_) 4 23 true [24, 25, 26, 27] (fun hs0 hj => ?_) ?_ ?_
    rotate_left
    ·have hs0j := hs0
     try simp only [decide_eq_true_eq, Bool.not_eq_true', decide_eq_false_iff_not, Bool.not_eq_false', Int.not_lt, Int.not_le, Int.toNat_natCast, Bool.and_eq_true, Bool.or_eq_true, Bool.and_eq_false_iff, Bool.or_eq_false_iff] at hs0
     refine QL.p T ?_
     refine QL.p T ?_
     refine QL.lv1 T ?_
     refine QL.p T ?_
     exact hj
    ·repeat first | exact Mx.refl | exact Mx.mix | refine Mx.put rfl ?_ | refine Mx.upd rfl ?_ | refine Mx.updl rfl ?_ | refine Mx.fin rfl ?_ | refine Mx.inner rfl ?_ | refine Mx.none ?_
    refine QL.and ?_
    refine QL.p T ?_
    refine QL.p T ?_
    refine QL.nil ?_
    refine hK4 _ _ _ ?_
    refine SW.ret ?_
    refine retQ.rr (H) ?_
    clear hK4 K4 hK2 K2 hK1 K1 hK0 K0
    exact ⟨rfl, rfl⟩
    )
theorem askCode2 {w0 : World} {H : List Chunk} (k n : Int) (k0 : -9223372036854775808 ≤ n) (k1 : n ≤ 9223372036854775807) (hk : k = 2) : SC Try.prog w0 32 #[.func (.func 33) #[] #[], .int .i64 k, .int .i64 n] H (fun v H' => v = .tuple #[.int .i64 (codeS k n).1, .int .i64 (codeS k n).2] ∧ H' = H) := by
 refine SC.enter Try.func32 rfl (Nat.le_of_ble_eq_true rfl) ?_
 refine SW.seq_k fun K0 hK0 => ?_
 refine SW.region _ _ _ _ ?_
 refine RL.p T ?_
 refine RL.p T ?_
 refine RL.nil _ _ _ _ ?_
 refine hK0 _ _ _ ?_
 refine SW.seq_k fun K1 hK1 => ?_
 refine SW.region _ _ _ _ ?_
 refine RL.p T ?_
 refine RL.p T ?_
 refine RL.c fun37 (fun hs => of2 k hk) ?_
 rintro _ _ ⟨b, rfl, e⟩; obtain rfl := e.symm
 refine RL.p T ?_
 refine RL.c fun33 (fun hs => codeT _ 16 (Rd.rowh hs (At.head _ _)) n) ?_
 rintro _ _ ⟨rfl, e⟩; obtain rfl := e.symm
 refine RL.p T ?_
 refine RL.p T ?_
 refine RL.p T ?_
 refine RL.p T ?_
 refine RL.p T ?_
 refine RL.nil _ _ _ _ ?_
 refine hK1 _ _ _ ?_
 refine SW.seq_k fun K2 hK2 => ?_
 refine SW.seq_k fun K3 hK3 => ?_
 refine SW.region _ _ _ _ ?_
 refine RL.p T ?_
 refine RL.p T ?_
 refine RL.nil _ _ _ _ ?_
 refine hK3 _ _ _ ?_
 refine SW.cs (fun hc0 => ?_) (fun hc0 => ?_)
 ·skip
  refine SW.seq_k fun K4 hK4 => ?_
  refine SW.region _ _ _ _ ?_
  refine RL.p T ?_
  refine RL.p T ?_
  refine RL.nil _ _ _ _ ?_
  refine hK4 _ _ _ ?_
  refine SW.ret ?_
  refine retQ.rr (H) ?_
  clear hK4 K4 hK3 K3 hK2 K2 hK1 K1 hK0 K0
  have hb := loS_hiS k
  refine ⟨?_, rfl⟩
  first
    | (rw [code_bad (k := k) (n := n) (by first | omega | (simp at *; omega))]; rfl)
    | (rw [code_okT (k := k) (n := n) (by omega) (by first | omega | (simp at *; omega)) k0 k1]; rfl)
 ·skip
  refine SW.skip ?_
  refine hK2 _ _ _ ?_
  refine SW.seq_k fun K5 hK5 => ?_
  refine SW.region _ _ _ _ ?_
  refine RL.p T ?_
  refine RL.p T ?_
  refine RL.p T ?_
  refine RL.nil _ _ _ _ ?_
  refine hK5 _ _ _ ?_
  refine SW.ret ?_
  refine retQ.rr (H) ?_
  clear hK5 K5 hK3 K3 hK2 K2 hK1 K1 hK0 K0
  have hb := loS_hiS k
  refine ⟨?_, rfl⟩
  first
    | (rw [code_bad (k := k) (n := n) (by first | omega | (simp at *; omega))]; rfl)
    | (rw [code_okT (k := k) (n := n) (by omega) (by first | omega | (simp at *; omega)) k0 k1]; rfl)
theorem askCodeN {w0 : World} {H : List Chunk} (k n : Int) (k0 : -9223372036854775808 ≤ n) (k1 : n ≤ 9223372036854775807) (hk : k ≠ 2) : SC Try.prog w0 32 #[.func (.func 33) #[] #[], .int .i64 k, .int .i64 n] H (fun v H' => v = .tuple #[.int .i64 (codeS k n).1, .int .i64 (codeS k n).2] ∧ H' = H) := by
 refine SC.enter Try.func32 rfl (Nat.le_of_ble_eq_true rfl) ?_
 refine SW.seq_k fun K0 hK0 => ?_
 refine SW.region _ _ _ _ ?_
 refine RL.p T ?_
 refine RL.p T ?_
 refine RL.nil _ _ _ _ ?_
 refine hK0 _ _ _ ?_
 refine SW.seq_k fun K1 hK1 => ?_
 refine SW.region _ _ _ _ ?_
 refine RL.p T ?_
 refine RL.p T ?_
 refine RL.c fun37 (fun hs => ofN k hk) ?_
 rintro _ _ ⟨rfl, e⟩; obtain rfl := e.symm
 refine RL.p T ?_
 refine RL.c fun33 (fun hs => codeN (loS k) (hiS k) n (loS_hiS k).1 (loS_hiS k).2.1 (loS_hiS k).2.2.1 (loS_hiS k).2.2.2.1) ?_
 rintro _ _ ⟨rfl, e⟩; obtain rfl := e.symm
 refine RL.p T ?_
 refine RL.p T ?_
 refine RL.p T ?_
 refine RL.p T ?_
 refine RL.p T ?_
 refine RL.nil _ _ _ _ ?_
 refine hK1 _ _ _ ?_
 refine SW.seq_k fun K2 hK2 => ?_
 refine SW.seq_k fun K3 hK3 => ?_
 refine SW.region _ _ _ _ ?_
 refine RL.p T ?_
 refine RL.p T ?_
 refine RL.nil _ _ _ _ ?_
 refine hK3 _ _ _ ?_
 refine SW.cs (fun hc0 => ?_) (fun hc0 => ?_)
 ·skip
  refine SW.seq_k fun K4 hK4 => ?_
  refine SW.region _ _ _ _ ?_
  refine RL.p T ?_
  refine RL.p T ?_
  refine RL.nil _ _ _ _ ?_
  refine hK4 _ _ _ ?_
  refine SW.ret ?_
  refine retQ.rr (H) ?_
  clear hK4 K4 hK3 K3 hK2 K2 hK1 K1 hK0 K0
  have hb := loS_hiS k
  refine ⟨?_, rfl⟩
  first
    | (rw [code_bad (k := k) (n := n) (by first | omega | (simp at *; omega))]; rfl)
    | (rw [code_okN (k := k) (n := n) (by omega) (by first | omega | (simp at *; omega)) k0 k1]; rfl)
 ·skip
  refine SW.skip ?_
  refine hK2 _ _ _ ?_
  refine SW.seq_k fun K5 hK5 => ?_
  refine SW.region _ _ _ _ ?_
  refine RL.p T ?_
  refine RL.p T ?_
  refine RL.p T ?_
  refine RL.nil _ _ _ _ ?_
  refine hK5 _ _ _ ?_
  refine SW.ret ?_
  refine retQ.rr (H) ?_
  clear hK5 K5 hK3 K3 hK2 K2 hK1 K1 hK0 K0
  have hb := loS_hiS k
  refine ⟨?_, rfl⟩
  first
    | (rw [code_bad (k := k) (n := n) (by first | omega | (simp at *; omega))]; rfl)
    | (rw [code_okN (k := k) (n := n) (by omega) (by first | omega | (simp at *; omega)) k0 k1]; rfl)
theorem askCode {w0 : World} {H : List Chunk} (k n : Int) (k0 : -9223372036854775808 ≤ n) (k1 : n ≤ 9223372036854775807) : SC Try.prog w0 32 #[.func (.func 33) #[] #[], .int .i64 k, .int .i64 n] H (fun v H' => v = .tuple #[.int .i64 (codeS k n).1, .int .i64 (codeS k n).2] ∧ H' = H) := by
  by_cases hk : k = 2
  · exact askCode2 k n k0 k1 hk
  · exact askCodeN k n k0 k1 hk
theorem pCode {w0 : World} {H : List Chunk} (k n : Int) (k0 : -9223372036854775808 ≤ n) (k1 : n ≤ 9223372036854775807) : SC Try.prog w0 24 #[.int .i64 k, .int .i64 n] H (fun v H' => v = .tuple #[.int .i64 (codeS k n).1, .int .i64 (codeS k n).2] ∧ H' = H) := by
 refine SC.enter Try.func24 rfl (Nat.le_of_ble_eq_true rfl) ?_
 refine SW.seq_k fun K0 hK0 => ?_
 refine SW.region _ _ _ _ ?_
 refine RL.p T ?_
 refine RL.p T ?_
 refine RL.nil _ _ _ _ ?_
 refine hK0 _ _ _ ?_
 refine SW.seq_k fun K1 hK1 => ?_
 refine SW.region _ _ _ _ ?_
 refine RL.p T ?_
 refine RL.p T ?_
 refine RL.c fun32 (fun hs => askCode k n k0 k1) ?_
 rintro _ _ ⟨rfl, e⟩; obtain rfl := e.symm
 refine RL.p T ?_
 refine RL.p T ?_
 refine RL.p T ?_
 refine RL.p T ?_
 refine RL.nil _ _ _ _ ?_
 refine hK1 _ _ _ ?_
 refine SW.ret ?_
 refine retQ.rr (H) ?_
 clear hK1 K1 hK0 K0
 exact ⟨rfl, rfl⟩
theorem rsize {w0 : World} {H : List Chunk} (k n : Int) (k0 : -9223372036854775808 ≤ n) (k1 : n ≤ 9223372036854775807) : SC Try.prog w0 39 #[.int .i64 k, .int .i64 n] H (fun v H' => v = .tuple #[.int .i64 (sizeS k n).1, .int .i64 (sizeS k n).2] ∧ H' = H) := by
 refine SC.enter Try.func39 rfl (Nat.le_of_ble_eq_true rfl) ?_
 refine SW.seq_k fun K0 hK0 => ?_
 refine SW.region _ _ _ _ ?_
 refine RL.p T ?_
 refine RL.p T ?_
 refine RL.nil _ _ _ _ ?_
 refine hK0 _ _ _ ?_
 refine SW.seq_k fun K1 hK1 => ?_
 refine SW.seq_k fun K2 hK2 => ?_
 refine SW.region _ _ _ _ ?_
 refine RL.p T ?_
 refine RL.p T ?_
 refine RL.p T ?_
 refine RL.join (fr1 := ?_) 2 8 true [9, 10] (fun hs0 hj => ?_) ?_ ?_
 rotate_left
 ·have hs0j := hs0
  try simp only [decide_eq_true_eq, Bool.not_eq_true', decide_eq_false_iff_not, Bool.not_eq_false', Int.not_lt, Int.not_le, Int.toNat_natCast, Bool.and_eq_true, Bool.or_eq_true, Bool.and_eq_false_iff, Bool.or_eq_false_iff] at hs0
  refine RL.p T ?_
  refine RL.p T ?_
  exact hj
 ·repeat first | exact Mx.refl | exact Mx.mix | refine Mx.put rfl ?_ | refine Mx.upd rfl ?_ | refine Mx.updl rfl ?_ | refine Mx.fin rfl ?_ | refine Mx.inner rfl ?_ | refine Mx.none ?_
 refine RL.and ?_
 refine RL.p T ?_
 refine RL.join (fr1 := ?_) 2 12 true [13, 14] (fun hs1 hj => ?_) ?_ ?_
 rotate_left
 ·have hs1j := hs1
  try simp only [decide_eq_true_eq, Bool.not_eq_true', decide_eq_false_iff_not, Bool.not_eq_false', Int.not_lt, Int.not_le, Int.toNat_natCast, Bool.and_eq_true, Bool.or_eq_true, Bool.and_eq_false_iff, Bool.or_eq_false_iff] at hs1
  refine RL.p T ?_
  refine RL.p T ?_
  exact hj
 ·repeat first | exact Mx.refl | exact Mx.mix | refine Mx.put rfl ?_ | refine Mx.upd rfl ?_ | refine Mx.updl rfl ?_ | refine Mx.fin rfl ?_ | refine Mx.inner rfl ?_ | refine Mx.none ?_
 refine RL.and ?_
 refine RL.nil _ _ _ _ ?_
 refine hK2 _ _ _ ?_
 refine SW.cs (fun hc0 => ?_) (fun hc0 => ?_)
 ·skip
  refine SW.seq_k fun K3 hK3 => ?_
  refine SW.region _ _ _ _ ?_
  refine RL.p T ?_
  first | refine RL.ar ?_ | refine RL.p T ?_
  refine RL.p T ?_
  refine RL.p T ?_
  refine RL.nil _ _ _ _ ?_
  refine hK3 _ _ _ ?_
  refine SW.ret ?_
  refine retQ.rr (H) ?_
  clear hK3 K3 hK2 K2 hK1 K1 hK0 K0
  refine ⟨?_, rfl⟩
  unfold sizeS
  first
    | (rw [if_pos (by omega)]; rfl)
    | (rw [if_neg (by omega), if_pos (by omega)]; rfl)
    | (rw [if_neg (by omega), if_neg (by omega), if_pos (by omega), ← tab7 (by omega) (by omega)]; rfl)
    | (rw [if_neg (by omega), if_neg (by omega), if_neg (by omega)]; rfl)
 ·skip
  refine SW.skip ?_
  refine hK1 _ _ _ ?_
  refine SW.seq_k fun K4 hK4 => ?_
  refine SW.seq_k fun K5 hK5 => ?_
  refine SW.region _ _ _ _ ?_
  refine RL.p T ?_
  refine RL.p T ?_
  refine RL.p T ?_
  refine RL.join (fr1 := ?_) 2 20 false [21, 22] (fun hs2 hj => ?_) ?_ ?_
  rotate_left
  ·have hs2j := hs2
   try simp only [decide_eq_true_eq, Bool.not_eq_true', decide_eq_false_iff_not, Bool.not_eq_false', Int.not_lt, Int.not_le, Int.toNat_natCast, Bool.and_eq_true, Bool.or_eq_true, Bool.and_eq_false_iff, Bool.or_eq_false_iff] at hs2
   refine RL.p T ?_
   refine RL.p T ?_
   exact hj
  ·repeat first | exact Mx.refl | exact Mx.mix | refine Mx.put rfl ?_ | refine Mx.upd rfl ?_ | refine Mx.updl rfl ?_ | refine Mx.fin rfl ?_ | refine Mx.inner rfl ?_ | refine Mx.none ?_
  refine RL.or ?_
  refine RL.p T ?_
  refine RL.join (fr1 := ?_) 2 24 true [25, 26] (fun hs3 hj => ?_) ?_ ?_
  rotate_left
  ·have hs3j := hs3
   try simp only [decide_eq_true_eq, Bool.not_eq_true', decide_eq_false_iff_not, Bool.not_eq_false', Int.not_lt, Int.not_le, Int.toNat_natCast, Bool.and_eq_true, Bool.or_eq_true, Bool.and_eq_false_iff, Bool.or_eq_false_iff] at hs3
   refine RL.p T ?_
   refine RL.p T ?_
   exact hj
  ·repeat first | exact Mx.refl | exact Mx.mix | refine Mx.put rfl ?_ | refine Mx.upd rfl ?_ | refine Mx.updl rfl ?_ | refine Mx.fin rfl ?_ | refine Mx.inner rfl ?_ | refine Mx.none ?_
  refine RL.and ?_
  refine RL.p T ?_
  refine RL.join (fr1 := ?_) 2 28 true [29, 30] (fun hs4 hj => ?_) ?_ ?_
  rotate_left
  ·have hs4j := hs4
   try simp only [decide_eq_true_eq, Bool.not_eq_true', decide_eq_false_iff_not, Bool.not_eq_false', Int.not_lt, Int.not_le, Int.toNat_natCast, Bool.and_eq_true, Bool.or_eq_true, Bool.and_eq_false_iff, Bool.or_eq_false_iff] at hs4
   refine RL.p T ?_
   refine RL.p T ?_
   exact hj
  ·repeat first | exact Mx.refl | exact Mx.mix | refine Mx.put rfl ?_ | refine Mx.upd rfl ?_ | refine Mx.updl rfl ?_ | refine Mx.fin rfl ?_ | refine Mx.inner rfl ?_ | refine Mx.none ?_
  refine RL.and ?_
  refine RL.nil _ _ _ _ ?_
  refine hK5 _ _ _ ?_
  refine SW.cs (fun hc1 => ?_) (fun hc1 => ?_)
  ·skip
   refine SW.seq_k fun K6 hK6 => ?_
   refine SW.region _ _ _ _ ?_
   refine RL.p T ?_
   refine RL.p T ?_
   refine RL.p T ?_
   refine RL.nil _ _ _ _ ?_
   refine hK6 _ _ _ ?_
   refine SW.ret ?_
   refine retQ.rr (H) ?_
   clear hK6 K6 hK5 K5 hK4 K4 hK2 K2 hK1 K1 hK0 K0
   refine ⟨?_, rfl⟩
   unfold sizeS
   first
     | (rw [if_pos (by omega)]; rfl)
     | (rw [if_neg (by omega), if_pos (by omega)]; rfl)
     | (rw [if_neg (by omega), if_neg (by omega), if_pos (by omega), ← tab7 (by omega) (by omega)]; rfl)
     | (rw [if_neg (by omega), if_neg (by omega), if_neg (by omega)]; rfl)
  ·skip
   refine SW.skip ?_
   refine hK4 _ _ _ ?_
   refine SW.seq_k fun K7 hK7 => ?_
   refine SW.seq_k fun K8 hK8 => ?_
   refine SW.region _ _ _ _ ?_
   refine RL.p T ?_
   refine RL.p T ?_
   refine RL.p T ?_
   refine RL.join (fr1 := ?_) 2 35 true [36, 37] (fun hs5 hj => ?_) ?_ ?_
   rotate_left
   ·have hs5j := hs5
    try simp only [decide_eq_true_eq, Bool.not_eq_true', decide_eq_false_iff_not, Bool.not_eq_false', Int.not_lt, Int.not_le, Int.toNat_natCast, Bool.and_eq_true, Bool.or_eq_true, Bool.and_eq_false_iff, Bool.or_eq_false_iff] at hs5
    refine RL.p T ?_
    refine RL.p T ?_
    exact hj
   ·repeat first | exact Mx.refl | exact Mx.mix | refine Mx.put rfl ?_ | refine Mx.upd rfl ?_ | refine Mx.updl rfl ?_ | refine Mx.fin rfl ?_ | refine Mx.inner rfl ?_ | refine Mx.none ?_
   refine RL.and ?_
   refine RL.p T ?_
   refine RL.join (fr1 := ?_) 2 39 true [40, 41] (fun hs6 hj => ?_) ?_ ?_
   rotate_left
   ·have hs6j := hs6
    try simp only [decide_eq_true_eq, Bool.not_eq_true', decide_eq_false_iff_not, Bool.not_eq_false', Int.not_lt, Int.not_le, Int.toNat_natCast, Bool.and_eq_true, Bool.or_eq_true, Bool.and_eq_false_iff, Bool.or_eq_false_iff] at hs6
    refine RL.p T ?_
    refine RL.p T ?_
    exact hj
   ·repeat first | exact Mx.refl | exact Mx.mix | refine Mx.put rfl ?_ | refine Mx.upd rfl ?_ | refine Mx.updl rfl ?_ | refine Mx.fin rfl ?_ | refine Mx.inner rfl ?_ | refine Mx.none ?_
   refine RL.and ?_
   refine RL.nil _ _ _ _ ?_
   refine hK8 _ _ _ ?_
   refine SW.cs (fun hc2 => ?_) (fun hc2 => ?_)
   ·skip
    refine SW.seq_k fun K9 hK9 => ?_
    refine SW.region _ _ _ _ ?_
    refine RL.s ?_
    first | refine NV.buildc T rfl (rfl : _ = some [_, _, _, _, _, _, _]) ?_ | refine NV.pure T (rfl : _ = some (Value.agg #[_, _, _, _, _, _, _])) ?_
    refine RL.p T ?_
    first | refine RL.ar ?_ | refine RL.p T ?_
    refine RL.s ?_
    refine QV.nv _ _ _ (fun c hc => by cases hc) (QV.idxI T rfl rfl (by exact (rfl : _ = List.map (Value.int _) [_, _, _, _, _, _, _])) rfl rfl rfl rfl rfl rfl rfl (by omega) (by omega)) ?_
    refine RL.p T ?_
    refine RL.p T ?_
    refine RL.nil _ _ _ _ ?_
    refine hK9 _ _ _ ?_
    refine SW.ret ?_
    refine retQ.rr (H) ?_
    clear hK9 K9 hK8 K8 hK7 K7 hK5 K5 hK4 K4 hK2 K2 hK1 K1 hK0 K0
    refine ⟨?_, rfl⟩
    unfold sizeS
    first
      | (rw [if_pos (by omega)]; rfl)
      | (rw [if_neg (by omega), if_pos (by omega)]; rfl)
      | (rw [if_neg (by omega), if_neg (by omega), if_pos (by omega), ← tab7 (by omega) (by omega)]; rfl)
      | (rw [if_neg (by omega), if_neg (by omega), if_neg (by omega)]; rfl)
   ·skip
    refine SW.skip ?_
    refine hK7 _ _ _ ?_
    refine SW.seq_k fun K10 hK10 => ?_
    refine SW.region _ _ _ _ ?_
    refine RL.p T ?_
    refine RL.p T ?_
    refine RL.nil _ _ _ _ ?_
    refine hK10 _ _ _ ?_
    refine SW.ret ?_
    refine retQ.rr (H) ?_
    clear hK10 K10 hK8 K8 hK7 K7 hK5 K5 hK4 K4 hK2 K2 hK1 K1 hK0 K0
    refine ⟨?_, rfl⟩
    unfold sizeS
    first
      | (rw [if_pos (by omega)]; rfl)
      | (rw [if_neg (by omega), if_pos (by omega)]; rfl)
      | (rw [if_neg (by omega), if_neg (by omega), if_pos (by omega), ← tab7 (by omega) (by omega)]; rfl)
      | (rw [if_neg (by omega), if_neg (by omega), if_neg (by omega)]; rfl)
theorem rcode {w0 : World} {H : List Chunk} (k n : Int) (k0 : -9223372036854775808 ≤ n) (k1 : n ≤ 9223372036854775807) : SC Try.prog w0 36 #[.int .i64 k, .int .i64 n] H (fun v H' => v = .tuple #[.int .i64 (codeS k n).1, .int .i64 (codeS k n).2] ∧ H' = H) := by
 refine SC.enter Try.func36 rfl (Nat.le_of_ble_eq_true rfl) ?_
 refine SW.seq_k fun K0 hK0 => ?_
 refine SW.region _ _ _ _ ?_
 refine RL.p T ?_
 refine RL.p T ?_
 refine RL.nil _ _ _ _ ?_
 refine hK0 _ _ _ ?_
 refine SW.seq_k fun K1 hK1 => ?_
 refine SW.seq_k fun K2 hK2 => ?_
 refine SW.region _ _ _ _ ?_
 refine RL.p T ?_
 refine RL.nil _ _ _ _ ?_
 refine hK2 _ _ _ ?_
 refine SW.block ?_
 refine SW.loopM (fun frB mm fr ds HH => ∃ (k2 : Nat), mm = 2048 - k2 ∧ (k2 ≤ 2048 ∧ (∀ j : Nat, j < k2 → sizeS k j ≠ (n, 0))) ∧ FrIs [4, 5, 6, 7, 8, 9, 10, 11, 12, 13, 14, 15, 16, 17, 18, 19, 20, 21, 22, 23, 24, 25, 26] frB fr [(6, .int .i64 k2)] ∧ ds = [] ∧ HH = H) (n := 2048 - 0) ?_ ?_
 ·exact ⟨0, rfl, ⟨Nat.zero_le _, fun j h => absurd h (Nat.not_lt_zero _)⟩, (.consI rfl (by first | omega | rfl) (.nil (by repeat first | exact Mx.refl | exact Mx.mix | refine Mx.put rfl ?_ | refine Mx.upd rfl ?_ | refine Mx.updl rfl ?_ | refine Mx.fin rfl ?_ | refine Mx.inner rfl ?_ | refine Mx.none ?_))), rfl, rfl⟩
 ·rintro mm fr ds HH ⟨k2, rfl, ⟨hk, hno⟩, hFr, rfl, eHH⟩
  obtain rfl := eHH.symm
  obtain ⟨frU, rfl⟩ := hFr.eq
  clear hFr
  refine SW.seq_k fun K3 hK3 => ?_
  refine SW.seq_k fun K4 hK4 => ?_
  refine SW.region _ _ _ _ ?_
  refine RL.p T ?_
  refine RL.p T ?_
  refine RL.nil _ _ _ _ ?_
  refine hK4 _ _ _ ?_
  refine SW.cs (fun hc0 => ?_) (fun hc0 => ?_)
  ·skip
   refine SW.skip ?_
   refine hK3 _ _ _ ?_
   refine SW.seq_k fun K5 hK5 => ?_
   refine SW.block ?_
   refine SW.seq_k fun K6 hK6 => ?_
   refine SW.region _ _ _ _ ?_
   refine RL.p T ?_
   refine RL.p T ?_
   refine RL.c fun39 (fun hs => rsize k k2 (by omega) (by omega)) ?_
   rintro _ _ ⟨rfl, e⟩; obtain rfl := e.symm
   refine RL.p T ?_
   refine RL.p T ?_
   refine RL.p T ?_
   refine RL.p T ?_
   refine RL.p T ?_
   refine RL.nil _ _ _ _ ?_
   refine hK6 _ _ _ ?_
   refine SW.seq_k fun K7 hK7 => ?_
   refine SW.region _ _ _ _ ?_
   refine RL.p T ?_
   refine RL.p T ?_
   refine RL.p T ?_
   refine RL.join (fr1 := ?_) 3 21 true [22, 23, 24] (fun hs0 hj => ?_) ?_ ?_
   rotate_left
   ·have hs0j := hs0
    try simp only [decide_eq_true_eq, Bool.not_eq_true', decide_eq_false_iff_not, Bool.not_eq_false', Int.not_lt, Int.not_le, Int.toNat_natCast, Bool.and_eq_true, Bool.or_eq_true, Bool.and_eq_false_iff, Bool.or_eq_false_iff] at hs0
    refine RL.p T ?_
    refine RL.p T ?_
    refine RL.p T ?_
    exact hj
   ·repeat first | exact Mx.refl | exact Mx.mix | refine Mx.put rfl ?_ | refine Mx.upd rfl ?_ | refine Mx.updl rfl ?_ | refine Mx.fin rfl ?_ | refine Mx.inner rfl ?_ | refine Mx.none ?_
   refine RL.and ?_
   refine RL.nil _ _ _ _ ?_
   refine hK7 _ _ _ ?_
   refine SW.cs (fun hc1 => ?_) (fun hc1 => ?_)
   ·skip
    refine SW.seq_k fun K8 hK8 => ?_
    refine SW.region _ _ _ _ ?_
    refine RL.p T ?_
    refine RL.p T ?_
    refine RL.p T ?_
    refine RL.nil _ _ _ _ ?_
    refine hK8 _ _ _ ?_
    refine SW.ret ?_
    refine retQ.rr (H) ?_
    clear hK8 K8 hK7 K7 hK6 K6 hK5 K5 hK4 K4 hK3 K3 hK2 K2 hK1 K1 hK0 K0
    refine ⟨?_, rfl⟩
    first
      | (rw [code_hit (k := k2) (n := n) (Prod.ext hc1.2 hc1.1)]; rfl)
      | (rw [code_miss (fun j hj => hno j (by omega))]; rfl)
   ·skip
    refine SW.skip ?_
    refine hK5 _ _ _ ?_
    refine SW.region _ _ _ _ ?_
    refine RL.p T ?_
    first | refine RL.ar ?_ | refine RL.p T ?_
    refine RL.p T ?_
    refine RL.nil _ _ _ _ ?_
    exact ⟨2048 - (k2 + 1), (by omega), k2 + 1, (by rfl), ⟨by omega, fun j hj he => by
      rcases Nat.lt_or_ge j k2 with h | h
      · exact hno j h he
      · obtain rfl : j = k2 := by omega
        rw [he] at hc1; simp at hc1⟩, (.consI rfl (by first | omega | rfl) (.nil (by repeat first | exact Mx.refl | exact Mx.mix | refine Mx.put rfl ?_ | refine Mx.upd rfl ?_ | refine Mx.updl rfl ?_ | refine Mx.fin rfl ?_ | refine Mx.inner rfl ?_ | refine Mx.none ?_))), rfl, rfl⟩
  ·skip
   refine SW.exit ?_
   refine hK1 _ _ _ ?_
   refine SW.seq_k fun K9 hK9 => ?_
   refine SW.region _ _ _ _ ?_
   refine RL.p T ?_
   refine RL.p T ?_
   refine RL.nil _ _ _ _ ?_
   refine hK9 _ _ _ ?_
   refine SW.ret ?_
   refine retQ.rr (H) ?_
   clear hK9 K9 hK4 K4 hK3 K3 hK2 K2 hK1 K1 hK0 K0
   refine ⟨?_, rfl⟩
   first
     | (rw [code_hit (k := k2) (n := n) (Prod.ext hc1.2 hc1.1)]; rfl)
     | (rw [code_miss (fun j hj => hno j (by omega))]; rfl)
end Go.Proofs.Ytgdnanfnmaafoaa.M
