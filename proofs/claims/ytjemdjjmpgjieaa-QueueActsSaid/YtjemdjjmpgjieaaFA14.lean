import Derived.Test.YtjemdjjmpgjieaaProg
import Derived.Test.YtjemdjjmpgjieaaP16
set_option linter.unusedVariables false
set_option linter.unusedSimpArgs false
namespace Go.Proofs.Ytjemdjjmpgjieaa.M
open Go Go.Sep Go.Proofs
set_option maxRecDepth 10000
set_option maxHeartbeats 2000000
noncomputable def T : Tab Try.prog := ⟨Try.prog.info?, Try.prog.underlying, fun _ _ h => h, fun _ _ h => h⟩
theorem mixed : Try.prog.follows .mixedOrders = true := by kernel_rfl
theorem fun3 : Fun Try.prog 3 := Fun.mk Try.func3 (by kernel_rfl) (by kernel_rfl)
theorem fun4 : Fun Try.prog 4 := Fun.mk Try.func4 (by kernel_rfl) (by kernel_rfl)
theorem fun5 : Fun Try.prog 5 := Fun.mk Try.func5 (by kernel_rfl) (by kernel_rfl)
theorem fun6 : Fun Try.prog 6 := Fun.mk Try.func6 (by kernel_rfl) (by kernel_rfl)
theorem fun7 : Fun Try.prog 7 := Fun.mk Try.func7 (by kernel_rfl) (by kernel_rfl)
theorem fun8 : Fun Try.prog 8 := Fun.mk Try.func8 (by kernel_rfl) (by kernel_rfl)
theorem fun9 : Fun Try.prog 9 := Fun.mk Try.func9 (by kernel_rfl) (by kernel_rfl)
theorem fun10 : Fun Try.prog 10 := Fun.mk Try.func10 (by kernel_rfl) (by kernel_rfl)
theorem fun11 : Fun Try.prog 11 := Fun.mk Try.func11 (by kernel_rfl) (by kernel_rfl)
theorem fun12 : Fun Try.prog 12 := Fun.mk Try.func12 (by kernel_rfl) (by kernel_rfl)
theorem fun13 : Fun Try.prog 13 := Fun.mk Try.func13 (by kernel_rfl) (by kernel_rfl)
theorem fun14 : Fun Try.prog 14 := Fun.mk Try.func14 (by kernel_rfl) (by kernel_rfl)
theorem fun15 : Fun Try.prog 15 := Fun.mk Try.func15 (by kernel_rfl) (by kernel_rfl)
theorem fun16 : Fun Try.prog 16 := Fun.mk Try.func16 (by kernel_rfl) (by kernel_rfl)
theorem fun17 : Fun Try.prog 17 := Fun.mk Try.func17 (by kernel_rfl) (by kernel_rfl)
theorem fun18 : Fun Try.prog 18 := Fun.mk Try.func18 (by kernel_rfl) (by kernel_rfl)
theorem fun19 : Fun Try.prog 19 := Fun.mk Try.func19 (by kernel_rfl) (by kernel_rfl)
theorem fun20 : Fun Try.prog 20 := Fun.mk Try.func20 (by kernel_rfl) (by kernel_rfl)
theorem fun21 : Fun Try.prog 21 := Fun.mk Try.func21 (by kernel_rfl) (by kernel_rfl)
theorem fun22 : Fun Try.prog 22 := Fun.mk Try.func22 (by kernel_rfl) (by kernel_rfl)
theorem fun23 : Fun Try.prog 23 := Fun.mk Try.func23 (by kernel_rfl) (by kernel_rfl)
theorem fun24 : Fun Try.prog 24 := Fun.mk Try.func24 (by kernel_rfl) (by kernel_rfl)
theorem fun25 : Fun Try.prog 25 := Fun.mk Try.func25 (by kernel_rfl) (by kernel_rfl)
theorem fun26 : Fun Try.prog 26 := Fun.mk Try.func26 (by kernel_rfl) (by kernel_rfl)
theorem fun27 : Fun Try.prog 27 := Fun.mk Try.func27 (by kernel_rfl) (by kernel_rfl)
theorem fun28 : Fun Try.prog 28 := Fun.mk Try.func28 (by kernel_rfl) (by kernel_rfl)
theorem fun29 : Fun Try.prog 29 := Fun.mk Try.func29 (by kernel_rfl) (by kernel_rfl)
theorem fun30 : Fun Try.prog 30 := Fun.mk Try.func30 (by kernel_rfl) (by kernel_rfl)
theorem fun31 : Fun Try.prog 31 := Fun.mk Try.func31 (by kernel_rfl) (by kernel_rfl)
theorem fun32 : Fun Try.prog 32 := Fun.mk Try.func32 (by kernel_rfl) (by kernel_rfl)
theorem fun33 : Fun Try.prog 33 := Fun.mk Try.func33 (by kernel_rfl) (by kernel_rfl)
theorem fun34 : Fun Try.prog 34 := Fun.mk Try.func34 (by kernel_rfl) (by kernel_rfl)
theorem fun35 : Fun Try.prog 35 := Fun.mk Try.func35 (by kernel_rfl) (by kernel_rfl)
theorem fun36 : Fun Try.prog 36 := Fun.mk Try.func36 (by kernel_rfl) (by kernel_rfl)
theorem fun37 : Fun Try.prog 37 := Fun.mk Try.func37 (by kernel_rfl) (by kernel_rfl)
theorem fun38 : Fun Try.prog 38 := Fun.mk Try.func38 (by kernel_rfl) (by kernel_rfl)
theorem fun39 : Fun Try.prog 39 := Fun.mk Try.func39 (by kernel_rfl) (by kernel_rfl)
theorem fun40 : Fun Try.prog 40 := Fun.mk Try.func40 (by kernel_rfl) (by kernel_rfl)
theorem fun41 : Fun Try.prog 41 := Fun.mk Try.func41 (by kernel_rfl) (by kernel_rfl)
theorem fun42 : Fun Try.prog 42 := Fun.mk Try.func42 (by kernel_rfl) (by kernel_rfl)
theorem fun43 : Fun Try.prog 43 := Fun.mk Try.func43 (by kernel_rfl) (by kernel_rfl)
theorem fun44 : Fun Try.prog 44 := Fun.mk Try.func44 (by kernel_rfl) (by kernel_rfl)
theorem fun45 : Fun Try.prog 45 := Fun.mk Try.func45 (by kernel_rfl) (by kernel_rfl)
theorem fun46 : Fun Try.prog 46 := Fun.mk Try.func46 (by kernel_rfl) (by kernel_rfl)
theorem fun47 : Fun Try.prog 47 := Fun.mk Try.func47 (by kernel_rfl) (by kernel_rfl)
theorem fun48 : Fun Try.prog 48 := Fun.mk Try.func48 (by kernel_rfl) (by kernel_rfl)
theorem fun49 : Fun Try.prog 49 := Fun.mk Try.func49 (by kernel_rfl) (by kernel_rfl)
theorem fun50 : Fun Try.prog 50 := Fun.mk Try.func50 (by kernel_rfl) (by kernel_rfl)
theorem fun51 : Fun Try.prog 51 := Fun.mk Try.func51 (by kernel_rfl) (by kernel_rfl)
theorem fun52 : Fun Try.prog 52 := Fun.mk Try.func52 (by kernel_rfl) (by kernel_rfl)
theorem fun53 : Fun Try.prog 53 := Fun.mk Try.func53 (by kernel_rfl) (by kernel_rfl)
theorem fun54 : Fun Try.prog 54 := Fun.mk Try.func54 (by kernel_rfl) (by kernel_rfl)
theorem fun55 : Fun Try.prog 55 := Fun.mk Try.func55 (by kernel_rfl) (by kernel_rfl)
theorem fun56 : Fun Try.prog 56 := Fun.mk Try.func56 (by kernel_rfl) (by kernel_rfl)
theorem fun57 : Fun Try.prog 57 := Fun.mk Try.func57 (by kernel_rfl) (by kernel_rfl)
theorem fun58 : Fun Try.prog 58 := Fun.mk Try.func58 (by kernel_rfl) (by kernel_rfl)
theorem fun59 : Fun Try.prog 59 := Fun.mk Try.func59 (by kernel_rfl) (by kernel_rfl)
theorem fun60 : Fun Try.prog 60 := Fun.mk Try.func60 (by kernel_rfl) (by kernel_rfl)
theorem fun61 : Fun Try.prog 61 := Fun.mk Try.func61 (by kernel_rfl) (by kernel_rfl)
theorem fun62 : Fun Try.prog 62 := Fun.mk Try.func62 (by kernel_rfl) (by kernel_rfl)
theorem fun63 : Fun Try.prog 63 := Fun.mk Try.func63 (by kernel_rfl) (by kernel_rfl)
theorem fun64 : Fun Try.prog 64 := Fun.mk Try.func64 (by kernel_rfl) (by kernel_rfl)
theorem fun65 : Fun Try.prog 65 := Fun.mk Try.func65 (by kernel_rfl) (by kernel_rfl)
theorem fun66 : Fun Try.prog 66 := Fun.mk Try.func66 (by kernel_rfl) (by kernel_rfl)
theorem fun67 : Fun Try.prog 67 := Fun.mk Try.func67 (by kernel_rfl) (by kernel_rfl)
theorem fun68 : Fun Try.prog 68 := Fun.mk Try.func68 (by kernel_rfl) (by kernel_rfl)
theorem fun69 : Fun Try.prog 69 := Fun.mk Try.func69 (by kernel_rfl) (by kernel_rfl)
theorem fun70 : Fun Try.prog 70 := Fun.mk Try.func70 (by kernel_rfl) (by kernel_rfl)
theorem fun71 : Fun Try.prog 71 := Fun.mk Try.func71 (by kernel_rfl) (by kernel_rfl)
theorem fun72 : Fun Try.prog 72 := Fun.mk Try.func72 (by kernel_rfl) (by kernel_rfl)
theorem fun73 : Fun Try.prog 73 := Fun.mk Try.func73 (by kernel_rfl) (by kernel_rfl)
theorem fun74 : Fun Try.prog 74 := Fun.mk Try.func74 (by kernel_rfl) (by kernel_rfl)
theorem fun75 : Fun Try.prog 75 := Fun.mk Try.func75 (by kernel_rfl) (by kernel_rfl)
theorem fun76 : Fun Try.prog 76 := Fun.mk Try.func76 (by kernel_rfl) (by kernel_rfl)
theorem fun77 : Fun Try.prog 77 := Fun.mk Try.func77 (by kernel_rfl) (by kernel_rfl)
theorem fun78 : Fun Try.prog 78 := Fun.mk Try.func78 (by kernel_rfl) (by kernel_rfl)
theorem fun79 : Fun Try.prog 79 := Fun.mk Try.func79 (by kernel_rfl) (by kernel_rfl)
theorem fun80 : Fun Try.prog 80 := Fun.mk Try.func80 (by kernel_rfl) (by kernel_rfl)
theorem fun81 : Fun Try.prog 81 := Fun.mk Try.func81 (by kernel_rfl) (by kernel_rfl)
theorem fun82 : Fun Try.prog 82 := Fun.mk Try.func82 (by kernel_rfl) (by kernel_rfl)
theorem fun83 : Fun Try.prog 83 := Fun.mk Try.func83 (by kernel_rfl) (by kernel_rfl)
theorem fun84 : Fun Try.prog 84 := Fun.mk Try.func84 (by kernel_rfl) (by kernel_rfl)
theorem fun85 : Fun Try.prog 85 := Fun.mk Try.func85 (by kernel_rfl) (by kernel_rfl)
theorem fun86 : Fun Try.prog 86 := Fun.mk Try.func86 (by kernel_rfl) (by kernel_rfl)
theorem fun87 : Fun Try.prog 87 := Fun.mk Try.func87 (by kernel_rfl) (by kernel_rfl)
theorem fun88 : Fun Try.prog 88 := Fun.mk Try.func88 (by kernel_rfl) (by kernel_rfl)
theorem fun89 : Fun Try.prog 89 := Fun.mk Try.func89 (by kernel_rfl) (by kernel_rfl)
theorem fun90 : Fun Try.prog 90 := Fun.mk Try.func90 (by kernel_rfl) (by kernel_rfl)
theorem fun107 : Fun Try.prog 107 := Fun.mk Try.func107 (by kernel_rfl) (by kernel_rfl)
theorem fun108 : Fun Try.prog 108 := Fun.mk Try.func108 (by kernel_rfl) (by kernel_rfl)
theorem fun109 : Fun Try.prog 109 := Fun.mk Try.func109 (by kernel_rfl) (by kernel_rfl)
theorem fun110 : Fun Try.prog 110 := Fun.mk Try.func110 (by kernel_rfl) (by kernel_rfl)
theorem fun111 : Fun Try.prog 111 := Fun.mk Try.func111 (by kernel_rfl) (by kernel_rfl)
def PL : Pl Try.prog where
  is := fun t => Nat.beq t 94
  h := fun t ht => by
    have e := Nat.eq_of_beq_eq_true ht
    subst e
    exact ⟨by kernel_rfl, by kernel_rfl, fun fs hfs f hf => by
      have := Try.underlying94; rw [this] at hfs; cases hfs⟩
theorem isNaN1 {w0 : World} {H : List Chunk} (z : Int) : SC Try.prog w0 72 #[.int .i64 z] H (fun v H' => v = .bool false ∧ H' = H) := by
 refine SC.enter Try.func72 rfl (Nat.le_of_ble_eq_true rfl) ?_
 refine SW.seq_k fun K0 hK0 => ?_
 refine SW.region _ _ _ _ ?_
 refine RL.p T ?_
 refine RL.nil _ _ _ _ ?_
 refine hK0 _ _ _ ?_
 refine SW.seq_k fun K1 hK1 => ?_
 refine SW.region _ _ _ _ ?_
 refine RL.p T ?_
 refine RL.p T ?_
 refine RL.p T ?_
 refine RL.p T ?_
 refine RL.nil _ _ _ _ ?_
 refine hK1 _ _ _ ?_
 refine SW.ret ?_
 refine retQ.rr (H) ?_
 clear hK1 K1 hK0 K0
 refine ⟨boolE ?_, rfl⟩; simp
theorem isNaN2 {w0 : World} {H : List Chunk} (z : Int) : SC Try.prog w0 74 #[.int .i64 z] H (fun v H' => v = .bool false ∧ H' = H) := by
 refine SC.enter Try.func74 rfl (Nat.le_of_ble_eq_true rfl) ?_
 refine SW.seq_k fun K0 hK0 => ?_
 refine SW.region _ _ _ _ ?_
 refine RL.p T ?_
 refine RL.nil _ _ _ _ ?_
 refine hK0 _ _ _ ?_
 refine SW.seq_k fun K1 hK1 => ?_
 refine SW.region _ _ _ _ ?_
 refine RL.p T ?_
 refine RL.p T ?_
 refine RL.p T ?_
 refine RL.p T ?_
 refine RL.nil _ _ _ _ ?_
 refine hK1 _ _ _ ?_
 refine SW.ret ?_
 refine retQ.rr (H) ?_
 clear hK1 K1 hK0 K0
 refine ⟨boolE ?_, rfl⟩; simp
theorem less {w0 : World} {H : List Chunk} (x y : Int) : SC Try.prog w0 73 #[.int .i64 x, .int .i64 y] H (fun v H' => v = .bool (decide (x < y)) ∧ H' = H) := by
 refine SC.enter Try.func73 rfl (Nat.le_of_ble_eq_true rfl) ?_
 refine SW.seq_k fun K0 hK0 => ?_
 refine SW.region _ _ _ _ ?_
 refine RL.p T ?_
 refine RL.nil _ _ _ _ ?_
 refine hK0 _ _ _ ?_
 refine SW.seq_k fun K1 hK1 => ?_
 refine SW.region _ _ _ _ ?_
 refine RL.p T ?_
 refine RL.c fun72 (fun hs => isNaN1 x) ?_
 rintro _ _ ⟨rfl, e⟩; obtain rfl := e.symm
 refine RL.p T ?_
 refine RL.guard_no rfl rfl rfl ?_
 refine RL.guard_no rfl rfl rfl ?_
 refine RL.guard_no rfl rfl rfl ?_
 refine RL.p T ?_
 refine RL.p T ?_
 refine RL.p T ?_
 refine RL.p T ?_
 refine RL.p T ?_
 refine RL.p T ?_
 refine RL.p T ?_
 refine RL.nil _ _ _ _ ?_
 refine hK1 _ _ _ ?_
 refine SW.ret ?_
 refine retQ.rr (H) ?_
 clear hK1 K1 hK0 K0
 exact ⟨rfl, rfl⟩
theorem bsearch {w0 : World} {H : List Chunk} (sa : Option Addr) (c : Nat) (hR : Rd w0 H sa 16 c 1 (FDT.map (.int .i64))) (t : Int) : SC Try.prog w0 64 #[.slice sa 16 c, .int .i64 t] H (fun v H' => v = .tuple #[.int .i64 (fdUp t), .bool (decide (fdUp t < 16) && decide (fdSize (fdUp t) = t))] ∧ H' = H) := by
 refine SC.enter Try.func64 rfl (Nat.le_of_ble_eq_true rfl) ?_
 refine SW.seq_k fun K0 hK0 => ?_
 refine SW.region _ _ _ _ ?_
 refine RL.p T ?_
 refine RL.p T ?_
 refine RL.nil _ _ _ _ ?_
 refine hK0 _ _ _ ?_
 refine SW.seq_k fun K1 hK1 => ?_
 refine SW.region _ _ _ _ ?_
 refine RL.p T ?_
 refine RL.p T ?_
 refine RL.p T ?_
 refine RL.nil _ _ _ _ ?_
 refine hK1 _ _ _ ?_
 refine SW.seq_k fun K2 hK2 => ?_
 refine SW.region _ _ _ _ ?_
 refine RL.p T ?_
 refine RL.p T ?_
 refine RL.p T ?_
 refine RL.nil _ _ _ _ ?_
 refine hK2 _ _ _ ?_
 refine SW.seq_k fun K3 hK3 => ?_
 refine SW.block ?_
 refine SW.loopM (fun frB mm fr ds HH => ∃ (i j : Nat), mm = j - i ∧ (i ≤ j ∧ j ≤ 16 ∧ (∀ q : Nat, q < i → fdSize q < t) ∧ (∀ q : Nat, j ≤ q → q < 16 → t ≤ fdSize q)) ∧ FrIs [7, 8, 9, 13, 14, 15, 16, 17, 18, 19, 20, 21, 22, 23, 24, 25, 26, 27, 28, 29, 30] frB fr [(7, .int .i64 i), (8, .int .i64 j)] ∧ ds = [] ∧ HH = H) (n := 16 - 0) ?_ ?_
 ·exact ⟨0, 16, rfl, ⟨by omega, by omega, fun q h => absurd h (Nat.not_lt_zero _), fun q h1 h2 => by omega⟩, (.consI rfl (by first | omega | rfl) (.consI rfl (by first | omega | rfl) (.nil (by repeat first | with_reducible exact Mx.refl | with_reducible exact Mx.mix | refine Mx.put rfl ?_ | refine Mx.upd rfl ?_ | refine Mx.updl rfl ?_ | refine Mx.fin rfl ?_ | refine Mx.inner rfl ?_ | refine Mx.none ?_ | exact Mx.refl | exact Mx.mix)))), rfl, rfl⟩
 ·rintro mm fr ds HH ⟨i, j, rfl, ⟨hij, hj, hl, hg⟩, hFr, rfl, eHH⟩
  obtain rfl := eHH.symm
  obtain ⟨frU, rfl⟩ := hFr.eq
  clear hFr
  refine SW.seq_k fun K4 hK4 => ?_
  refine SW.seq_k fun K5 hK5 => ?_
  refine SW.region _ _ _ _ ?_
  refine RL.p T ?_
  refine RL.p T ?_
  refine RL.p T ?_
  refine RL.nil _ _ _ _ ?_
  refine hK5 _ _ _ ?_
  refine SW.cs (fun hc0 => ?_) (fun hc0 => ?_)
  ·skip
   refine SW.skip ?_
   refine hK4 _ _ _ ?_
   refine SW.block ?_
   refine SW.seq_k fun K6 hK6 => ?_
   refine SW.region _ _ _ _ ?_
   refine RL.p T ?_
   refine RL.p T ?_
   first | refine RL.ar ?_ | refine RL.p T ?_
   first | refine RL.cv T ?_ | refine RL.p T ?_ | refine RL.ts T ?_
   first | refine RL.q (QV.shrP rfl rfl rfl (by exact (rfl : _ = ((_ : Nat) : Int))) (by omega) rfl) ?_ | refine RL.q (QV.shift rfl rfl rfl (by omega) (.inr ⟨rfl, rfl⟩)) ?_
   first | refine RL.cv T ?_ | refine RL.p T ?_ | refine RL.ts T ?_
   rw [show ((i : Int) + j) / 2 ^ 1 = (((i + j) / 2 : Nat) : Int) by omega]
   refine RL.p T ?_
   refine RL.nil _ _ _ _ ?_
   refine hK6 _ _ _ ?_
   refine SW.seq_k fun K7 hK7 => ?_
   refine SW.region _ _ _ _ ?_
   refine RL.p T ?_
   refine RL.p T ?_
   refine RL.ix T ?_
   refine RL.le T ?_ (hv := (map_as (by show _ < 16; omega) (fdt_get _ (by omega))))
   refine RL.p T ?_
   refine RL.c fun73 (fun hs => less _ t) ?_
   rintro _ _ ⟨rfl, e⟩; obtain rfl := e.symm
   refine RL.nil _ _ _ _ ?_
   refine hK7 _ _ _ ?_
   refine SW.cs (fun hc1 => ?_) (fun hc1 => ?_)
   ·skip
    refine SW.region _ _ _ _ ?_
    refine RL.p T ?_
    first | refine RL.ar ?_ | refine RL.p T ?_
    refine RL.p T ?_
    refine RL.nil _ _ _ _ ?_
    first
      | exact ⟨j - ((i + j) / 2 + 1), (by omega), (i + j) / 2 + 1, j, (by rfl), ⟨by omega, hj, fun q hq => Int.lt_of_le_of_lt (fd_le (b := (i + j) / 2) (by omega) (by omega)) hc1, hg⟩, (.consI rfl (by first | omega | rfl) (.consI rfl (by first | omega | rfl) (.nil (by repeat first | with_reducible exact Mx.refl | with_reducible exact Mx.mix | refine Mx.put rfl ?_ | refine Mx.upd rfl ?_ | refine Mx.updl rfl ?_ | refine Mx.fin rfl ?_ | refine Mx.inner rfl ?_ | refine Mx.none ?_ | exact Mx.refl | exact Mx.mix)))), rfl, rfl⟩
      | exact ⟨(i + j) / 2 - i, (by omega), i, (i + j) / 2, (by rfl), ⟨by omega, by omega, hl, fun q h1 h2 => Int.le_trans hc1 (fd_le (by omega) (by omega))⟩, (.consI rfl (by first | omega | rfl) (.consI rfl (by first | omega | rfl) (.nil (by repeat first | with_reducible exact Mx.refl | with_reducible exact Mx.mix | refine Mx.put rfl ?_ | refine Mx.upd rfl ?_ | refine Mx.updl rfl ?_ | refine Mx.fin rfl ?_ | refine Mx.inner rfl ?_ | refine Mx.none ?_ | exact Mx.refl | exact Mx.mix)))), rfl, rfl⟩
   ·skip
    refine SW.region _ _ _ _ ?_
    refine RL.p T ?_
    refine RL.p T ?_
    refine RL.nil _ _ _ _ ?_
    first
      | exact ⟨j - ((i + j) / 2 + 1), (by omega), (i + j) / 2 + 1, j, (by rfl), ⟨by omega, hj, fun q hq => Int.lt_of_le_of_lt (fd_le (b := (i + j) / 2) (by omega) (by omega)) hc1, hg⟩, (.consI rfl (by first | omega | rfl) (.consI rfl (by first | omega | rfl) (.nil (by repeat first | with_reducible exact Mx.refl | with_reducible exact Mx.mix | refine Mx.put rfl ?_ | refine Mx.upd rfl ?_ | refine Mx.updl rfl ?_ | refine Mx.fin rfl ?_ | refine Mx.inner rfl ?_ | refine Mx.none ?_ | exact Mx.refl | exact Mx.mix)))), rfl, rfl⟩
      | exact ⟨(i + j) / 2 - i, (by omega), i, (i + j) / 2, (by rfl), ⟨by omega, by omega, hl, fun q h1 h2 => Int.le_trans hc1 (fd_le (by omega) (by omega))⟩, (.consI rfl (by first | omega | rfl) (.consI rfl (by first | omega | rfl) (.nil (by repeat first | with_reducible exact Mx.refl | with_reducible exact Mx.mix | refine Mx.put rfl ?_ | refine Mx.upd rfl ?_ | refine Mx.updl rfl ?_ | refine Mx.fin rfl ?_ | refine Mx.inner rfl ?_ | refine Mx.none ?_ | exact Mx.refl | exact Mx.mix)))), rfl, rfl⟩
  ·skip
   refine SW.exit ?_
   refine hK3 _ _ _ ?_
   refine SW.seq_k fun K8 hK8 => ?_
   refine SW.region _ _ _ _ ?_
   refine RL.p T ?_
   refine RL.p T ?_
   refine RL.p T ?_
   refine RL.p T ?_
   refine RL.p T ?_
   refine RL.join (fr1 := ?_) 17 35 true [36, 37, 38, 39, 40, 41, 42, 43, 44, 45, 46, 47, 48, 49, 50, 51, 52] (fun hs0 hj => ?_) ?_ ?_
   rotate_left
   ·have hs0j := hs0
    try simp only [decide_eq_true_eq, Bool.not_eq_true', decide_eq_false_iff_not, Bool.not_eq_false', Int.not_lt, Int.not_le, Int.toNat_natCast, Bool.and_eq_true, Bool.or_eq_true, Bool.and_eq_false_iff, Bool.or_eq_false_iff] at hs0
    refine RL.p T ?_
    refine RL.p T ?_
    refine RL.ix T ?_
    refine RL.le T ?_ (hv := (map_as (by show _ < 16; omega) (fdt_get _ (by omega))))
    refine RL.p T ?_
    refine RL.p T ?_
    refine RL.p T ?_
    refine RL.join (fr1 := ?_) 9 42 false [43, 44, 45, 46, 47, 48, 49, 50, 51] (fun hs1 hj => ?_) ?_ ?_
    rotate_left
    ·have hs1j := hs1
     try simp only [decide_eq_true_eq, Bool.not_eq_true', decide_eq_false_iff_not, Bool.not_eq_false', Int.not_lt, Int.not_le, Int.toNat_natCast, Bool.and_eq_true, Bool.or_eq_true, Bool.and_eq_false_iff, Bool.or_eq_false_iff] at hs1
     refine RL.p T ?_
     refine RL.p T ?_
     refine RL.ix T ?_
     refine RL.le T ?_ (hv := (map_as (by show _ < 16; omega) (fdt_get _ (by omega))))
     refine RL.c fun74 (fun hs => isNaN2 _) ?_
     rintro _ _ ⟨rfl, e⟩; obtain rfl := e.symm
     refine RL.p T ?_
     refine RL.guard_no rfl rfl rfl ?_
     refine RL.guard_no rfl rfl rfl ?_
     refine RL.p T ?_
     exact hj
    ·repeat first | with_reducible exact Mx.refl | with_reducible exact Mx.mix | refine Mx.put rfl ?_ | refine Mx.upd rfl ?_ | refine Mx.updl rfl ?_ | refine Mx.fin rfl ?_ | refine Mx.inner rfl ?_ | refine Mx.none ?_ | exact Mx.refl | exact Mx.mix
    refine RL.or ?_
    exact hj
   ·repeat first | with_reducible exact Mx.refl | with_reducible exact Mx.mix | refine Mx.put rfl ?_ | refine Mx.upd rfl ?_ | refine Mx.updl rfl ?_ | refine Mx.fin rfl ?_ | refine Mx.inner rfl ?_ | refine Mx.none ?_ | exact Mx.refl | exact Mx.mix
   refine RL.and ?_
   refine RL.p T ?_
   refine RL.p T ?_
   refine RL.nil _ _ _ _ ?_
   refine hK8 _ _ _ ?_
   refine SW.ret ?_
   refine retQ.rr (H) ?_
   clear hK8 K8 hK5 K5 hK4 K4 hK3 K3 hK2 K2 hK1 K1 hK0 K0
   obtain rfl : i = j := by omega
   have he := bin_end hj hl hg
   refine ⟨?_, rfl⟩
   rw [← he]
   show Value.tuple #[_, .bool _] = _
   congr 3
   by_cases h : i < 16 <;> simp <;> omega
theorem of2 {w0 : World} {H : List Chunk} (k : Int) (hk : k = 2) : SC Try.prog w0 63 #[.int .i64 k] H (fun v H' => ∃ b, v = .agg #[.slice (some ⟨b, 0, none⟩) 16 16, .int .i64 0, .int .i64 0] ∧ H' = .row (some ⟨b, 0, none⟩) 16 16 3 1 (FDT.map (.int .i64)) :: H) := by
 refine SC.enter Try.func63 rfl (Nat.le_of_ble_eq_true rfl) ?_
 refine SW.seq_k fun K0 hK0 => ?_
 refine SW.region _ _ _ _ ?_
 refine RL.s ?_
 refine NV.alloc T rfl rfl rfl (by exact (rfl : _ = [_, _, _])) ?_
 intro b2_0
 refine RL.nil _ _ _ _ ?_
 refine hK0 _ _ _ ?_
 refine SW.seq_k fun K1 hK1 => ?_
 refine SW.seq_k fun K2 hK2 => ?_
 refine SW.region _ _ _ _ ?_
 refine RL.p T ?_
 refine RL.nil _ _ _ _ ?_
 refine hK2 _ _ _ ?_
 refine SW.block ?_
 refine SW.seq_k fun K3 hK3 => ?_
 refine SW.region _ _ _ _ ?_
 refine RL.p T ?_
 refine RL.p T ?_
 refine RL.nil _ _ _ _ ?_
 refine hK3 _ _ _ ?_
 refine SW.cs (fun hc0 => ?_) (fun hc0 => ?_)
 ·skip
  first
   | (exfalso; omega)
   | (
    refine SW.seq_k fun K4 hK4 => ?_
    refine SW.region _ _ _ _ ?_
    refine RL.s ?_
    refine NV.pure T (rfl : _ = some (Value.agg #[_, _, _])) ?_
    refine RL.s ?_
    refine NV.sN T rfl rfl rfl (by exact (rfl : _ = [_, _, _])) (by exact (rfl : _ = [_, _, _])) ?_
    refine RL.nil _ _ _ _ ?_
    refine hK4 _ _ _ ?_
    refine SW.ret ?_
    refine retQ.ra ((.row (some ⟨b9_1, 0, none⟩) 16 16 3 1 (FDT.map (.int .i64)) :: H)) (RVs.cN T rfl rfl rfl rfl (by exact (rfl : _ = [_, _, _])) RVs.nil) ?_
    clear hK4 K4 hK3 K3 hK2 K2 hK1 K1 hK0 K0
    refine ⟨_, rfl, ?_⟩
    simp only [FDT, List.map_cons, List.map_nil]
    )
 ·skip
  first
   | (exfalso; omega)
   | (
    refine SW.seq_k fun K5 hK5 => ?_
    refine SW.region _ _ _ _ ?_
    refine RL.p T ?_
    refine RL.p T ?_
    refine RL.nil _ _ _ _ ?_
    refine hK5 _ _ _ ?_
    refine SW.cs (fun hc1 => ?_) (fun hc1 => ?_)
    ·skip
     first
      | (exfalso; omega)
      | (
       refine SW.seq_k fun K6 hK6 => ?_
       refine SW.region _ _ _ _ ?_
       refine RL.bs T rfl rfl rfl (by exact (rfl : _ = some [_, _, _, _, _, _, _, _, _, _, _, _, _, _, _, _])) (fun b9_1 => ?_)
       refine RL.s ?_
       first | refine NV.buildc T rfl (rfl : _ = some [_, _, _]) ?_ | refine NV.buildz T rfl (rfl : _ = some [_, _, _]) ?_ | refine NV.pure T (rfl : _ = some (Value.agg #[_, _, _])) ?_
       refine RL.s ?_
       refine NV.sN T rfl rfl rfl (by exact (rfl : _ = [_, _, _])) (by exact (rfl : _ = [_, _, _])) ?_
       refine RL.nil _ _ _ _ ?_
       refine hK6 _ _ _ ?_
       refine SW.ret ?_
       refine retQ.ra ((.row (some ⟨b9_1, 0, none⟩) 16 16 3 1 (FDT.map (.int .i64)) :: H)) (RVs.cN T rfl rfl rfl rfl (by exact (rfl : _ = [_, _, _])) RVs.nil) ?_
       clear hK6 K6 hK5 K5 hK3 K3 hK2 K2 hK1 K1 hK0 K0
       refine ⟨_, rfl, ?_⟩
       simp only [FDT, List.map_cons, List.map_nil]
       )
    ·skip
     first
      | (exfalso; omega)
      | (
       refine SW.seq_k fun K7 hK7 => ?_
       refine SW.region _ _ _ _ ?_
       refine RL.p T ?_
       refine RL.p T ?_
       refine RL.nil _ _ _ _ ?_
       refine hK7 _ _ _ ?_
       refine SW.cs (fun hc2 => ?_) (fun hc2 => ?_)
       ·skip
        first
         | (exfalso; omega)
         | (
          refine SW.seq_k fun K8 hK8 => ?_
          refine SW.region _ _ _ _ ?_
          refine RL.s ?_
          refine NV.pure T (rfl : _ = some (Value.agg #[_, _, _])) ?_
          refine RL.s ?_
          refine NV.sN T rfl rfl rfl (by exact (rfl : _ = [_, _, _])) (by exact (rfl : _ = [_, _, _])) ?_
          refine RL.nil _ _ _ _ ?_
          refine hK8 _ _ _ ?_
          refine SW.ret ?_
          refine retQ.ra ((.row (some ⟨b9_1, 0, none⟩) 16 16 3 1 (FDT.map (.int .i64)) :: H)) (RVs.cN T rfl rfl rfl rfl (by exact (rfl : _ = [_, _, _])) RVs.nil) ?_
          clear hK8 K8 hK7 K7 hK5 K5 hK3 K3 hK2 K2 hK1 K1 hK0 K0
          refine ⟨_, rfl, ?_⟩
          simp only [FDT, List.map_cons, List.map_nil]
          )
       ·skip
        first
         | (exfalso; omega)
         | (
          refine SW.skip ?_
          refine hK1 _ _ _ ?_
          refine SW.seq_k fun K9 hK9 => ?_
          refine SW.region _ _ _ _ ?_
          refine RL.s ?_
          refine NV.pure T (rfl : _ = some (Value.agg #[_, _, _])) ?_
          refine RL.s ?_
          refine NV.sN T rfl rfl rfl (by exact (rfl : _ = [_, _, _])) (by exact (rfl : _ = [_, _, _])) ?_
          refine RL.nil _ _ _ _ ?_
          refine hK9 _ _ _ ?_
          refine SW.ret ?_
          refine retQ.ra ((.row (some ⟨b9_1, 0, none⟩) 16 16 3 1 (FDT.map (.int .i64)) :: H)) (RVs.cN T rfl rfl rfl rfl (by exact (rfl : _ = [_, _, _])) RVs.nil) ?_
          clear hK9 K9 hK7 K7 hK5 K5 hK3 K3 hK2 K2 hK1 K1 hK0 K0
          refine ⟨_, rfl, ?_⟩
          simp only [FDT, List.map_cons, List.map_nil]
          )
       )
    )
theorem ofN {w0 : World} {H : List Chunk} (k : Int) (hk : k ≠ 2) : SC Try.prog w0 63 #[.int .i64 k] H (fun v H' => v = .agg #[.slice none 0 0, .int .i64 (loS k), .int .i64 (hiS k)] ∧ H' = H) := by
 refine SC.enter Try.func63 rfl (Nat.le_of_ble_eq_true rfl) ?_
 refine SW.seq_k fun K0 hK0 => ?_
 refine SW.region _ _ _ _ ?_
 refine RL.s ?_
 refine NV.alloc T rfl rfl rfl (by exact (rfl : _ = [_, _, _])) ?_
 intro b2_0
 refine RL.nil _ _ _ _ ?_
 refine hK0 _ _ _ ?_
 refine SW.seq_k fun K1 hK1 => ?_
 refine SW.seq_k fun K2 hK2 => ?_
 refine SW.region _ _ _ _ ?_
 refine RL.p T ?_
 refine RL.nil _ _ _ _ ?_
 refine hK2 _ _ _ ?_
 refine SW.block ?_
 refine SW.seq_k fun K3 hK3 => ?_
 refine SW.region _ _ _ _ ?_
 refine RL.p T ?_
 refine RL.p T ?_
 refine RL.nil _ _ _ _ ?_
 refine hK3 _ _ _ ?_
 refine SW.cs (fun hc0 => ?_) (fun hc0 => ?_)
 ·skip
  first
   | (exfalso; omega)
   | (
    refine SW.seq_k fun K4 hK4 => ?_
    refine SW.region _ _ _ _ ?_
    refine RL.s ?_
    refine NV.pure T (rfl : _ = some (Value.agg #[_, _, _])) ?_
    refine RL.s ?_
    refine NV.sN T rfl rfl rfl (by exact (rfl : _ = [_, _, _])) (by exact (rfl : _ = [_, _, _])) ?_
    refine RL.nil _ _ _ _ ?_
    refine hK4 _ _ _ ?_
    refine SW.ret ?_
    refine retQ.ra (H) (RVs.cN T rfl rfl rfl rfl (by exact (rfl : _ = [_, _, _])) RVs.nil) ?_
    clear hK4 K4 hK3 K3 hK2 K2 hK1 K1 hK0 K0
    refine ⟨?_, rfl⟩
    unfold loS hiS
    first
      | (rw [if_pos (by omega), if_pos (by omega)]; rfl)
      | (rw [if_neg (by omega), if_neg (by omega), if_pos (by omega)]; rfl)
      | (rw [if_neg (by omega), if_neg (by omega), if_neg (by omega)]; rfl)
    )
 ·skip
  first
   | (exfalso; omega)
   | (
    refine SW.seq_k fun K5 hK5 => ?_
    refine SW.region _ _ _ _ ?_
    refine RL.p T ?_
    refine RL.p T ?_
    refine RL.nil _ _ _ _ ?_
    refine hK5 _ _ _ ?_
    refine SW.cs (fun hc1 => ?_) (fun hc1 => ?_)
    ·skip
     first
      | (exfalso; omega)
      | (
       refine SW.seq_k fun K6 hK6 => ?_
       refine SW.region _ _ _ _ ?_
       refine RL.bs T rfl rfl rfl (by exact (rfl : _ = some [_, _, _, _, _, _, _, _, _, _, _, _, _, _, _, _])) (fun b9_1 => ?_)
       refine RL.s ?_
       first | refine NV.buildc T rfl (rfl : _ = some [_, _, _]) ?_ | refine NV.buildz T rfl (rfl : _ = some [_, _, _]) ?_ | refine NV.pure T (rfl : _ = some (Value.agg #[_, _, _])) ?_
       refine RL.s ?_
       refine NV.sN T rfl rfl rfl (by exact (rfl : _ = [_, _, _])) (by exact (rfl : _ = [_, _, _])) ?_
       refine RL.nil _ _ _ _ ?_
       refine hK6 _ _ _ ?_
       refine SW.ret ?_
       refine retQ.ra (H) (RVs.cN T rfl rfl rfl rfl (by exact (rfl : _ = [_, _, _])) RVs.nil) ?_
       clear hK6 K6 hK5 K5 hK3 K3 hK2 K2 hK1 K1 hK0 K0
       refine ⟨?_, rfl⟩
       unfold loS hiS
       first
         | (rw [if_pos (by omega), if_pos (by omega)]; rfl)
         | (rw [if_neg (by omega), if_neg (by omega), if_pos (by omega)]; rfl)
         | (rw [if_neg (by omega), if_neg (by omega), if_neg (by omega)]; rfl)
       )
    ·skip
     first
      | (exfalso; omega)
      | (
       refine SW.seq_k fun K7 hK7 => ?_
       refine SW.region _ _ _ _ ?_
       refine RL.p T ?_
       refine RL.p T ?_
       refine RL.nil _ _ _ _ ?_
       refine hK7 _ _ _ ?_
       refine SW.cs (fun hc2 => ?_) (fun hc2 => ?_)
       ·skip
        first
         | (exfalso; omega)
         | (
          refine SW.seq_k fun K8 hK8 => ?_
          refine SW.region _ _ _ _ ?_
          refine RL.s ?_
          refine NV.pure T (rfl : _ = some (Value.agg #[_, _, _])) ?_
          refine RL.s ?_
          refine NV.sN T rfl rfl rfl (by exact (rfl : _ = [_, _, _])) (by exact (rfl : _ = [_, _, _])) ?_
          refine RL.nil _ _ _ _ ?_
          refine hK8 _ _ _ ?_
          refine SW.ret ?_
          refine retQ.ra (H) (RVs.cN T rfl rfl rfl rfl (by exact (rfl : _ = [_, _, _])) RVs.nil) ?_
          clear hK8 K8 hK7 K7 hK5 K5 hK3 K3 hK2 K2 hK1 K1 hK0 K0
          refine ⟨?_, rfl⟩
          unfold loS hiS
          first
            | (rw [if_pos (by omega), if_pos (by omega)]; rfl)
            | (rw [if_neg (by omega), if_neg (by omega), if_pos (by omega)]; rfl)
            | (rw [if_neg (by omega), if_neg (by omega), if_neg (by omega)]; rfl)
          )
       ·skip
        first
         | (exfalso; omega)
         | (
          refine SW.skip ?_
          refine hK1 _ _ _ ?_
          refine SW.seq_k fun K9 hK9 => ?_
          refine SW.region _ _ _ _ ?_
          refine RL.s ?_
          refine NV.pure T (rfl : _ = some (Value.agg #[_, _, _])) ?_
          refine RL.s ?_
          refine NV.sN T rfl rfl rfl (by exact (rfl : _ = [_, _, _])) (by exact (rfl : _ = [_, _, _])) ?_
          refine RL.nil _ _ _ _ ?_
          refine hK9 _ _ _ ?_
          refine SW.ret ?_
          refine retQ.ra (H) (RVs.cN T rfl rfl rfl rfl (by exact (rfl : _ = [_, _, _])) RVs.nil) ?_
          clear hK9 K9 hK7 K7 hK5 K5 hK3 K3 hK2 K2 hK1 K1 hK0 K0
          refine ⟨?_, rfl⟩
          unfold loS hiS
          first
            | (rw [if_pos (by omega), if_pos (by omega)]; rfl)
            | (rw [if_neg (by omega), if_neg (by omega), if_pos (by omega)]; rfl)
            | (rw [if_neg (by omega), if_neg (by omega), if_neg (by omega)]; rfl)
          )
       )
    )
theorem codeN {w0 : World} {H : List Chunk} (lo hi n : Int) (l0 : 0 ≤ lo) (l1 : lo ≤ 2048) (h0 : 0 ≤ hi) (h1 : hi ≤ 2048) : SC Try.prog w0 52 #[.agg #[.slice none 0 0, .int .i64 lo, .int .i64 hi], .int .i64 n] H (fun v H' => v = .tuple #[.int .i64 (IntKind.i64.wrap (n - lo)), .bool (decide (lo ≤ n) && decide (n ≤ hi))] ∧ H' = H) := by
 refine SC.enter Try.func52 rfl (Nat.le_of_ble_eq_true rfl) ?_
 refine SW.seq_k fun K0 hK0 => ?_
 refine SW.region _ _ _ _ ?_
 refine RL.s ?_
 refine NV.box rfl (by exact (rfl : _ = [_, _, _])) ?_
 intro b2_0
 refine RL.p T ?_
 refine RL.p T ?_
 refine RL.nil _ _ _ _ ?_
 refine hK0 _ _ _ ?_
 refine SW.seq_k fun K1 hK1 => ?_
 refine SW.seq_k fun K2 hK2 => ?_
 refine SW.region _ _ _ _ ?_
 refine RL.p T ?_
 refine RL.lv1 T ?_
 refine RL.p T ?_
 refine RL.nil _ _ _ _ ?_
 refine hK2 _ _ _ ?_
 refine SW.cs (fun hc0 => ?_) (fun hc0 => ?_)
 ·skip
  exfalso; first | omega | contradiction | (simp at hc0; done)
 ·skip
  first
   | (exfalso; first | omega | contradiction | (simp at hc0; done))
   | (
    refine SW.skip ?_
    refine hK1 _ _ _ ?_
    refine SW.seq_k fun K3 hK3 => ?_
    refine SW.drawQ [(15, 0), (16, 1), (17, 2), (18, 3), (19, 4), (20, 5), (21, 6), (22, 7), (23, 8), (24, 9), (25, 10), (26, 11), (27, 12), (28, 13), (4, 14), (5, 15)] [[], [], [1], [0, 2, 1], [], [], [5], [4, 6, 5], [7, 4, 6, 5], [8, 7, 4, 6, 5], [8, 7, 4, 6, 5], [10, 8, 7, 4, 6, 5], [9, 8, 7, 4, 6, 5, 11, 10], [8, 7, 4, 6, 5, 12, 9, 11, 10], [3, 0, 2, 1, 8, 7, 4, 6, 5], [13, 8, 7, 4, 6, 5, 12, 9, 11, 10, 14, 3, 0, 2, 1]] mixed (by kernel_rfl) (by kernel_rfl) ?_
    refine QL.p T ?_
    refine QL.p T ?_
    refine QL.lv1 T ?_
    refine QL.step (by first | exact Gd.none rfl | exact Gd.yes rfl rfl | exact Gd.yes rfl (congrArg Value.bool (by assumption))) rfl (pev_sound T (by conv => lhs; whnf; arg 1; whnf)) ?_
    refine QL.p T ?_
    refine QL.p T ?_
    refine QL.lv1 T ?_
    refine QL.p T ?_
    refine QL.p T ?_
    refine QL.join (fr1 := ?_) 4 23 true [24, 25, 26, 27] (fun hs0 hj => ?_) ?_ ?_
    rotate_left
    ·have hs0j := hs0
     try simp only [decide_eq_true_eq, Bool.not_eq_true', decide_eq_false_iff_not, Bool.not_eq_false', Int.not_lt, Int.not_le, Int.toNat_natCast, Bool.and_eq_true, Bool.or_eq_true, Bool.and_eq_false_iff, Bool.or_eq_false_iff] at hs0
     refine QL.p T ?_
     refine QL.p T ?_
     refine QL.lv1 T ?_
     refine QL.p T ?_
     exact hj
    ·repeat first | with_reducible exact Mx.refl | with_reducible exact Mx.mix | refine Mx.put rfl ?_ | refine Mx.upd rfl ?_ | refine Mx.updl rfl ?_ | refine Mx.fin rfl ?_ | refine Mx.inner rfl ?_ | refine Mx.none ?_ | exact Mx.refl | exact Mx.mix
    refine QL.and ?_
    refine QL.p T ?_
    refine QL.p T ?_
    refine QL.nil ?_
    refine hK3 _ _ _ ?_
    refine SW.ret ?_
    refine retQ.rr (H) ?_
    clear hK3 K3 hK2 K2 hK1 K1 hK0 K0
    exact ⟨rfl, rfl⟩
    )
theorem codeT {w0 : World} {H : List Chunk} (p : Addr) (c : Nat) (hR : Rd w0 H (some p) 16 c 1 (FDT.map (.int .i64))) (n : Int) : SC Try.prog w0 52 #[.agg #[.slice (some p) 16 c, .int .i64 0, .int .i64 0], .int .i64 n] H (fun v H' => v = .tuple #[.int .i64 (fdUp n), .bool (decide (fdUp n < 16) && decide (fdSize (fdUp n) = n))] ∧ H' = H) := by
 refine SC.enter Try.func52 rfl (Nat.le_of_ble_eq_true rfl) ?_
 refine SW.seq_k fun K0 hK0 => ?_
 refine SW.region _ _ _ _ ?_
 refine RL.s ?_
 refine NV.box rfl (by exact (rfl : _ = [_, _, _])) ?_
 intro b2_0
 refine RL.p T ?_
 refine RL.p T ?_
 refine RL.nil _ _ _ _ ?_
 refine hK0 _ _ _ ?_
 refine SW.seq_k fun K1 hK1 => ?_
 refine SW.seq_k fun K2 hK2 => ?_
 refine SW.region _ _ _ _ ?_
 refine RL.p T ?_
 refine RL.lv1 T ?_
 refine RL.p T ?_
 refine RL.nil _ _ _ _ ?_
 refine hK2 _ _ _ ?_
 refine SW.cs (fun hc0 => ?_) (fun hc0 => ?_)
 ·skip
  first
   | (exfalso; first | omega | contradiction | (simp at hc0; done))
   | (
    refine SW.seq_k fun K3 hK3 => ?_
    refine SW.region _ _ _ _ ?_
    refine RL.p T ?_
    refine RL.lv1 T ?_
    refine RL.p T ?_
    refine RL.c fun64 (fun hs => bsearch _ c hR.cons n) ?_
    rintro _ _ ⟨rfl, e⟩; obtain rfl := e.symm
    refine RL.p T ?_
    refine RL.p T ?_
    refine RL.p T ?_
    refine RL.p T ?_
    refine RL.nil _ _ _ _ ?_
    refine hK3 _ _ _ ?_
    refine SW.ret ?_
    refine retQ.rr (H) ?_
    clear hK3 K3 hK2 K2 hK1 K1 hK0 K0
    exact ⟨rfl, rfl⟩
    )
 ·skip
  first
   | (exfalso; first | omega | contradiction | (simp at hc0; done))
   | (
    refine SW.skip ?_
    refine hK1 _ _ _ ?_
    refine SW.seq_k fun K4 hK4 => ?_
    refine SW.drawQ [(15, 0), (16, 1), (17, 2), (18, 3), (19, 4), (20, 5), (21, 6), (22, 7), (23, 8), (24, 9), (25, 10), (26, 11), (27, 12), (28, 13), (4, 14), (5, 15)] [[], [], [1], [0, 2, 1], [], [], [5], [4, 6, 5], [7, 4, 6, 5], [8, 7, 4, 6, 5], [8, 7, 4, 6, 5], [10, 8, 7, 4, 6, 5], [9, 8, 7, 4, 6, 5, 11, 10], [8, 7, 4, 6, 5, 12, 9, 11, 10], [3, 0, 2, 1, 8, 7, 4, 6, 5], [13, 8, 7, 4, 6, 5, 12, 9, 11, 10, 14, 3, 0, 2, 1]] mixed (by kernel_rfl) (by kernel_rfl) ?_
    refine QL.p T ?_
    refine QL.p T ?_
    refine QL.lv1 T ?_
    first | refine QL.ar ?_ | refine QL.p T ?_
    refine QL.p T ?_
    refine QL.p T ?_
    refine QL.lv1 T ?_
    refine QL.p T ?_
    refine QL.p T ?_
    refine QL.join (fr1 := ?_) 4 23 true [24, 25, 26, 27] (fun hs0 hj => ?_) ?_ ?_
    rotate_left
    ·have hs0j := hs0
     try simp only [decide_eq_true_eq, Bool.not_eq_true', decide_eq_false_iff_not, Bool.not_eq_false', Int.not_lt, Int.not_le, Int.toNat_natCast, Bool.and_eq_true, Bool.or_eq_true, Bool.and_eq_false_iff, Bool.or_eq_false_iff] at hs0
     refine QL.p T ?_
     refine QL.p T ?_
     refine QL.lv1 T ?_
     refine QL.p T ?_
     exact hj
    ·repeat first | with_reducible exact Mx.refl | with_reducible exact Mx.mix | refine Mx.put rfl ?_ | refine Mx.upd rfl ?_ | refine Mx.updl rfl ?_ | refine Mx.fin rfl ?_ | refine Mx.inner rfl ?_ | refine Mx.none ?_ | exact Mx.refl | exact Mx.mix
    refine QL.and ?_
    refine QL.p T ?_
    refine QL.p T ?_
    refine QL.nil ?_
    refine hK4 _ _ _ ?_
    refine SW.ret ?_
    refine retQ.rr (H) ?_
    clear hK4 K4 hK2 K2 hK1 K1 hK0 K0
    exact ⟨rfl, rfl⟩
    )
theorem askCode2 {w0 : World} {H : List Chunk} (k n : Int) (k0 : -9223372036854775808 ≤ n) (k1 : n ≤ 9223372036854775807) (hk : k = 2) : SC Try.prog w0 51 #[.func (.func 52) #[] #[], .int .i64 k, .int .i64 n] H (fun v H' => v = .tuple #[.int .i64 (codeS k n).1, .int .i64 (codeS k n).2] ∧ H' = H) := by
 refine SC.enter Try.func51 rfl (Nat.le_of_ble_eq_true rfl) ?_
 refine SW.seq_k fun K0 hK0 => ?_
 refine SW.region _ _ _ _ ?_
 refine RL.p T ?_
 refine RL.p T ?_
 refine RL.nil _ _ _ _ ?_
 refine hK0 _ _ _ ?_
 refine SW.seq_k fun K1 hK1 => ?_
 refine SW.region _ _ _ _ ?_
 refine RL.p T ?_
 refine RL.p T ?_
 refine RL.c fun63 (fun hs => of2 k hk) ?_
 rintro _ _ ⟨b, rfl, e⟩; obtain rfl := e.symm
 refine RL.p T ?_
 refine RL.c fun52 (fun hs => codeT _ 16 (Rd.rowh hs (At.head _ _)) n) ?_
 rintro _ _ ⟨rfl, e⟩; obtain rfl := e.symm
 refine RL.p T ?_
 refine RL.p T ?_
 refine RL.p T ?_
 refine RL.p T ?_
 refine RL.p T ?_
 refine RL.nil _ _ _ _ ?_
 refine hK1 _ _ _ ?_
 refine SW.seq_k fun K2 hK2 => ?_
 refine SW.seq_k fun K3 hK3 => ?_
 refine SW.region _ _ _ _ ?_
 refine RL.p T ?_
 refine RL.p T ?_
 refine RL.nil _ _ _ _ ?_
 refine hK3 _ _ _ ?_
 refine SW.cs (fun hc0 => ?_) (fun hc0 => ?_)
 ·skip
  refine SW.seq_k fun K4 hK4 => ?_
  refine SW.region _ _ _ _ ?_
  refine RL.p T ?_
  refine RL.p T ?_
  refine RL.nil _ _ _ _ ?_
  refine hK4 _ _ _ ?_
  refine SW.ret ?_
  refine retQ.rr (H) ?_
  clear hK4 K4 hK3 K3 hK2 K2 hK1 K1 hK0 K0
  have hb := loS_hiS k
  refine ⟨?_, rfl⟩
  first
    | (rw [code_bad (k := k) (n := n) (by first | omega | (simp at *; omega))]; rfl)
    | (rw [code_okT (k := k) (n := n) (by omega) (by first | omega | (simp at *; omega)) k0 k1]; rfl)
 ·skip
  refine SW.skip ?_
  refine hK2 _ _ _ ?_
  refine SW.seq_k fun K5 hK5 => ?_
  refine SW.region _ _ _ _ ?_
  refine RL.p T ?_
  refine RL.p T ?_
  refine RL.p T ?_
  refine RL.nil _ _ _ _ ?_
  refine hK5 _ _ _ ?_
  refine SW.ret ?_
  refine retQ.rr (H) ?_
  clear hK5 K5 hK3 K3 hK2 K2 hK1 K1 hK0 K0
  have hb := loS_hiS k
  refine ⟨?_, rfl⟩
  first
    | (rw [code_bad (k := k) (n := n) (by first | omega | (simp at *; omega))]; rfl)
    | (rw [code_okT (k := k) (n := n) (by omega) (by first | omega | (simp at *; omega)) k0 k1]; rfl)
theorem askCodeN {w0 : World} {H : List Chunk} (k n : Int) (k0 : -9223372036854775808 ≤ n) (k1 : n ≤ 9223372036854775807) (hk : k ≠ 2) : SC Try.prog w0 51 #[.func (.func 52) #[] #[], .int .i64 k, .int .i64 n] H (fun v H' => v = .tuple #[.int .i64 (codeS k n).1, .int .i64 (codeS k n).2] ∧ H' = H) := by
 refine SC.enter Try.func51 rfl (Nat.le_of_ble_eq_true rfl) ?_
 refine SW.seq_k fun K0 hK0 => ?_
 refine SW.region _ _ _ _ ?_
 refine RL.p T ?_
 refine RL.p T ?_
 refine RL.nil _ _ _ _ ?_
 refine hK0 _ _ _ ?_
 refine SW.seq_k fun K1 hK1 => ?_
 refine SW.region _ _ _ _ ?_
 refine RL.p T ?_
 refine RL.p T ?_
 refine RL.c fun63 (fun hs => ofN k hk) ?_
 rintro _ _ ⟨rfl, e⟩; obtain rfl := e.symm
 refine RL.p T ?_
 refine RL.c fun52 (fun hs => codeN (loS k) (hiS k) n (loS_hiS k).1 (loS_hiS k).2.1 (loS_hiS k).2.2.1 (loS_hiS k).2.2.2.1) ?_
 rintro _ _ ⟨rfl, e⟩; obtain rfl := e.symm
 refine RL.p T ?_
 refine RL.p T ?_
 refine RL.p T ?_
 refine RL.p T ?_
 refine RL.p T ?_
 refine RL.nil _ _ _ _ ?_
 refine hK1 _ _ _ ?_
 refine SW.seq_k fun K2 hK2 => ?_
 refine SW.seq_k fun K3 hK3 => ?_
 refine SW.region _ _ _ _ ?_
 refine RL.p T ?_
 refine RL.p T ?_
 refine RL.nil _ _ _ _ ?_
 refine hK3 _ _ _ ?_
 refine SW.cs (fun hc0 => ?_) (fun hc0 => ?_)
 ·skip
  refine SW.seq_k fun K4 hK4 => ?_
  refine SW.region _ _ _ _ ?_
  refine RL.p T ?_
  refine RL.p T ?_
  refine RL.nil _ _ _ _ ?_
  refine hK4 _ _ _ ?_
  refine SW.ret ?_
  refine retQ.rr (H) ?_
  clear hK4 K4 hK3 K3 hK2 K2 hK1 K1 hK0 K0
  have hb := loS_hiS k
  refine ⟨?_, rfl⟩
  first
    | (rw [code_bad (k := k) (n := n) (by first | omega | (simp at *; omega))]; rfl)
    | (rw [code_okN (k := k) (n := n) (by omega) (by first | omega | (simp at *; omega)) k0 k1]; rfl)
 ·skip
  refine SW.skip ?_
  refine hK2 _ _ _ ?_
  refine SW.seq_k fun K5 hK5 => ?_
  refine SW.region _ _ _ _ ?_
  refine RL.p T ?_
  refine RL.p T ?_
  refine RL.p T ?_
  refine RL.nil _ _ _ _ ?_
  refine hK5 _ _ _ ?_
  refine SW.ret ?_
  refine retQ.rr (H) ?_
  clear hK5 K5 hK3 K3 hK2 K2 hK1 K1 hK0 K0
  have hb := loS_hiS k
  refine ⟨?_, rfl⟩
  first
    | (rw [code_bad (k := k) (n := n) (by first | omega | (simp at *; omega))]; rfl)
    | (rw [code_okN (k := k) (n := n) (by omega) (by first | omega | (simp at *; omega)) k0 k1]; rfl)
theorem askCode {w0 : World} {H : List Chunk} (k n : Int) (k0 : -9223372036854775808 ≤ n) (k1 : n ≤ 9223372036854775807) : SC Try.prog w0 51 #[.func (.func 52) #[] #[], .int .i64 k, .int .i64 n] H (fun v H' => v = .tuple #[.int .i64 (codeS k n).1, .int .i64 (codeS k n).2] ∧ H' = H) := by
  by_cases hk : k = 2
  · exact askCode2 k n k0 k1 hk
  · exact askCodeN k n k0 k1 hk
theorem pCode {w0 : World} {H : List Chunk} (k n : Int) (k0 : -9223372036854775808 ≤ n) (k1 : n ≤ 9223372036854775807) : SC Try.prog w0 33 #[.int .i64 k, .int .i64 n] H (fun v H' => v = .tuple #[.int .i64 (codeS k n).1, .int .i64 (codeS k n).2] ∧ H' = H) := by
 refine SC.enter Try.func33 rfl (Nat.le_of_ble_eq_true rfl) ?_
 refine SW.seq_k fun K0 hK0 => ?_
 refine SW.region _ _ _ _ ?_
 refine RL.p T ?_
 refine RL.p T ?_
 refine RL.nil _ _ _ _ ?_
 refine hK0 _ _ _ ?_
 refine SW.seq_k fun K1 hK1 => ?_
 refine SW.region _ _ _ _ ?_
 refine RL.p T ?_
 refine RL.p T ?_
 refine RL.c fun51 (fun hs => askCode k n k0 k1) ?_
 rintro _ _ ⟨rfl, e⟩; obtain rfl := e.symm
 refine RL.p T ?_
 refine RL.p T ?_
 refine RL.p T ?_
 refine RL.p T ?_
 refine RL.nil _ _ _ _ ?_
 refine hK1 _ _ _ ?_
 refine SW.ret ?_
 refine retQ.rr (H) ?_
 clear hK1 K1 hK0 K0
 exact ⟨rfl, rfl⟩
theorem rsize {w0 : World} {H : List Chunk} (k n : Int) (k0 : -9223372036854775808 ≤ n) (k1 : n ≤ 9223372036854775807) : SC Try.prog w0 65 #[.int .i64 k, .int .i64 n] H (fun v H' => v = .tuple #[.int .i64 (sizeS k n).1, .int .i64 (sizeS k n).2] ∧ H' = H) := by
 refine SC.enter Try.func65 rfl (Nat.le_of_ble_eq_true rfl) ?_
 refine SW.seq_k fun K0 hK0 => ?_
 refine SW.region _ _ _ _ ?_
 refine RL.p T ?_
 refine RL.p T ?_
 refine RL.nil _ _ _ _ ?_
 refine hK0 _ _ _ ?_
 refine SW.seq_k fun K1 hK1 => ?_
 refine SW.seq_k fun K2 hK2 => ?_
 refine SW.region _ _ _ _ ?_
 refine RL.p T ?_
 refine RL.p T ?_
 refine RL.p T ?_
 refine RL.join (fr1 := ?_) 2 8 true [9, 10] (fun hs0 hj => ?_) ?_ ?_
 rotate_left
 ·have hs0j := hs0
  try simp only [decide_eq_true_eq, Bool.not_eq_true', decide_eq_false_iff_not, Bool.not_eq_false', Int.not_lt, Int.not_le, Int.toNat_natCast, Bool.and_eq_true, Bool.or_eq_true, Bool.and_eq_false_iff, Bool.or_eq_false_iff] at hs0
  refine RL.p T ?_
  refine RL.p T ?_
  exact hj
 ·repeat first | with_reducible exact Mx.refl | with_reducible exact Mx.mix | refine Mx.put rfl ?_ | refine Mx.upd rfl ?_ | refine Mx.updl rfl ?_ | refine Mx.fin rfl ?_ | refine Mx.inner rfl ?_ | refine Mx.none ?_ | exact Mx.refl | exact Mx.mix
 refine RL.and ?_
 refine RL.p T ?_
 refine RL.join (fr1 := ?_) 2 12 true [13, 14] (fun hs1 hj => ?_) ?_ ?_
 rotate_left
 ·have hs1j := hs1
  try simp only [decide_eq_true_eq, Bool.not_eq_true', decide_eq_false_iff_not, Bool.not_eq_false', Int.not_lt, Int.not_le, Int.toNat_natCast, Bool.and_eq_true, Bool.or_eq_true, Bool.and_eq_false_iff, Bool.or_eq_false_iff] at hs1
  refine RL.p T ?_
  refine RL.p T ?_
  exact hj
 ·repeat first | with_reducible exact Mx.refl | with_reducible exact Mx.mix | refine Mx.put rfl ?_ | refine Mx.upd rfl ?_ | refine Mx.updl rfl ?_ | refine Mx.fin rfl ?_ | refine Mx.inner rfl ?_ | refine Mx.none ?_ | exact Mx.refl | exact Mx.mix
 refine RL.and ?_
 refine RL.nil _ _ _ _ ?_
 refine hK2 _ _ _ ?_
 refine SW.cs (fun hc0 => ?_) (fun hc0 => ?_)
 ·skip
  refine SW.seq_k fun K3 hK3 => ?_
  refine SW.region _ _ _ _ ?_
  refine RL.p T ?_
  first | refine RL.ar ?_ | refine RL.p T ?_
  refine RL.p T ?_
  refine RL.p T ?_
  refine RL.nil _ _ _ _ ?_
  refine hK3 _ _ _ ?_
  refine SW.ret ?_
  refine retQ.rr (H) ?_
  clear hK3 K3 hK2 K2 hK1 K1 hK0 K0
  refine ⟨?_, rfl⟩
  unfold sizeS
  first
    | (rw [if_pos (by omega)]; rfl)
    | (rw [if_neg (by omega), if_pos (by omega)]; rfl)
    | (rw [if_neg (by omega), if_neg (by omega), if_pos (by omega), ← tab7 (by omega) (by omega)]; rfl)
    | (rw [if_neg (by omega), if_neg (by omega), if_neg (by omega)]; rfl)
 ·skip
  refine SW.skip ?_
  refine hK1 _ _ _ ?_
  refine SW.seq_k fun K4 hK4 => ?_
  refine SW.seq_k fun K5 hK5 => ?_
  refine SW.region _ _ _ _ ?_
  refine RL.p T ?_
  refine RL.p T ?_
  refine RL.p T ?_
  refine RL.join (fr1 := ?_) 2 20 false [21, 22] (fun hs2 hj => ?_) ?_ ?_
  rotate_left
  ·have hs2j := hs2
   try simp only [decide_eq_true_eq, Bool.not_eq_true', decide_eq_false_iff_not, Bool.not_eq_false', Int.not_lt, Int.not_le, Int.toNat_natCast, Bool.and_eq_true, Bool.or_eq_true, Bool.and_eq_false_iff, Bool.or_eq_false_iff] at hs2
   refine RL.p T ?_
   refine RL.p T ?_
   exact hj
  ·repeat first | with_reducible exact Mx.refl | with_reducible exact Mx.mix | refine Mx.put rfl ?_ | refine Mx.upd rfl ?_ | refine Mx.updl rfl ?_ | refine Mx.fin rfl ?_ | refine Mx.inner rfl ?_ | refine Mx.none ?_ | exact Mx.refl | exact Mx.mix
  refine RL.or ?_
  refine RL.p T ?_
  refine RL.join (fr1 := ?_) 2 24 true [25, 26] (fun hs3 hj => ?_) ?_ ?_
  rotate_left
  ·have hs3j := hs3
   try simp only [decide_eq_true_eq, Bool.not_eq_true', decide_eq_false_iff_not, Bool.not_eq_false', Int.not_lt, Int.not_le, Int.toNat_natCast, Bool.and_eq_true, Bool.or_eq_true, Bool.and_eq_false_iff, Bool.or_eq_false_iff] at hs3
   refine RL.p T ?_
   refine RL.p T ?_
   exact hj
  ·repeat first | with_reducible exact Mx.refl | with_reducible exact Mx.mix | refine Mx.put rfl ?_ | refine Mx.upd rfl ?_ | refine Mx.updl rfl ?_ | refine Mx.fin rfl ?_ | refine Mx.inner rfl ?_ | refine Mx.none ?_ | exact Mx.refl | exact Mx.mix
  refine RL.and ?_
  refine RL.p T ?_
  refine RL.join (fr1 := ?_) 2 28 true [29, 30] (fun hs4 hj => ?_) ?_ ?_
  rotate_left
  ·have hs4j := hs4
   try simp only [decide_eq_true_eq, Bool.not_eq_true', decide_eq_false_iff_not, Bool.not_eq_false', Int.not_lt, Int.not_le, Int.toNat_natCast, Bool.and_eq_true, Bool.or_eq_true, Bool.and_eq_false_iff, Bool.or_eq_false_iff] at hs4
   refine RL.p T ?_
   refine RL.p T ?_
   exact hj
  ·repeat first | with_reducible exact Mx.refl | with_reducible exact Mx.mix | refine Mx.put rfl ?_ | refine Mx.upd rfl ?_ | refine Mx.updl rfl ?_ | refine Mx.fin rfl ?_ | refine Mx.inner rfl ?_ | refine Mx.none ?_ | exact Mx.refl | exact Mx.mix
  refine RL.and ?_
  refine RL.nil _ _ _ _ ?_
  refine hK5 _ _ _ ?_
  refine SW.cs (fun hc1 => ?_) (fun hc1 => ?_)
  ·skip
   refine SW.seq_k fun K6 hK6 => ?_
   refine SW.region _ _ _ _ ?_
   refine RL.p T ?_
   refine RL.p T ?_
   refine RL.p T ?_
   refine RL.nil _ _ _ _ ?_
   refine hK6 _ _ _ ?_
   refine SW.ret ?_
   refine retQ.rr (H) ?_
   clear hK6 K6 hK5 K5 hK4 K4 hK2 K2 hK1 K1 hK0 K0
   refine ⟨?_, rfl⟩
   unfold sizeS
   first
     | (rw [if_pos (by omega)]; rfl)
     | (rw [if_neg (by omega), if_pos (by omega)]; rfl)
     | (rw [if_neg (by omega), if_neg (by omega), if_pos (by omega), ← tab7 (by omega) (by omega)]; rfl)
     | (rw [if_neg (by omega), if_neg (by omega), if_neg (by omega)]; rfl)
  ·skip
   refine SW.skip ?_
   refine hK4 _ _ _ ?_
   refine SW.seq_k fun K7 hK7 => ?_
   refine SW.seq_k fun K8 hK8 => ?_
   refine SW.region _ _ _ _ ?_
   refine RL.p T ?_
   refine RL.p T ?_
   refine RL.p T ?_
   refine RL.join (fr1 := ?_) 2 35 true [36, 37] (fun hs5 hj => ?_) ?_ ?_
   rotate_left
   ·have hs5j := hs5
    try simp only [decide_eq_true_eq, Bool.not_eq_true', decide_eq_false_iff_not, Bool.not_eq_false', Int.not_lt, Int.not_le, Int.toNat_natCast, Bool.and_eq_true, Bool.or_eq_true, Bool.and_eq_false_iff, Bool.or_eq_false_iff] at hs5
    refine RL.p T ?_
    refine RL.p T ?_
    exact hj
   ·repeat first | with_reducible exact Mx.refl | with_reducible exact Mx.mix | refine Mx.put rfl ?_ | refine Mx.upd rfl ?_ | refine Mx.updl rfl ?_ | refine Mx.fin rfl ?_ | refine Mx.inner rfl ?_ | refine Mx.none ?_ | exact Mx.refl | exact Mx.mix
   refine RL.and ?_
   refine RL.p T ?_
   refine RL.join (fr1 := ?_) 2 39 true [40, 41] (fun hs6 hj => ?_) ?_ ?_
   rotate_left
   ·have hs6j := hs6
    try simp only [decide_eq_true_eq, Bool.not_eq_true', decide_eq_false_iff_not, Bool.not_eq_false', Int.not_lt, Int.not_le, Int.toNat_natCast, Bool.and_eq_true, Bool.or_eq_true, Bool.and_eq_false_iff, Bool.or_eq_false_iff] at hs6
    refine RL.p T ?_
    refine RL.p T ?_
    exact hj
   ·repeat first | with_reducible exact Mx.refl | with_reducible exact Mx.mix | refine Mx.put rfl ?_ | refine Mx.upd rfl ?_ | refine Mx.updl rfl ?_ | refine Mx.fin rfl ?_ | refine Mx.inner rfl ?_ | refine Mx.none ?_ | exact Mx.refl | exact Mx.mix
   refine RL.and ?_
   refine RL.nil _ _ _ _ ?_
   refine hK8 _ _ _ ?_
   refine SW.cs (fun hc2 => ?_) (fun hc2 => ?_)
   ·skip
    refine SW.seq_k fun K9 hK9 => ?_
    refine SW.region _ _ _ _ ?_
    refine RL.s ?_
    first | refine NV.buildc T rfl (rfl : _ = some [_, _, _, _, _, _, _]) ?_ | refine NV.buildz T rfl (rfl : _ = some [_, _, _, _, _, _, _]) ?_ | refine NV.pure T (rfl : _ = some (Value.agg #[_, _, _, _, _, _, _])) ?_
    refine RL.p T ?_
    first | refine RL.ar ?_ | refine RL.p T ?_
    refine RL.s ?_
    refine QV.nv _ _ _ (fun c hc => by cases hc) (QV.idxI T rfl rfl (by exact (rfl : _ = List.map (Value.int _) [_, _, _, _, _, _, _])) rfl rfl rfl rfl rfl rfl rfl (by omega) (by omega)) ?_
    refine RL.p T ?_
    refine RL.p T ?_
    refine RL.nil _ _ _ _ ?_
    refine hK9 _ _ _ ?_
    refine SW.ret ?_
    refine retQ.rr (H) ?_
    clear hK9 K9 hK8 K8 hK7 K7 hK5 K5 hK4 K4 hK2 K2 hK1 K1 hK0 K0
    refine ⟨?_, rfl⟩
    unfold sizeS
    first
      | (rw [if_pos (by omega)]; rfl)
      | (rw [if_neg (by omega), if_pos (by omega)]; rfl)
      | (rw [if_neg (by omega), if_neg (by omega), if_pos (by omega), ← tab7 (by omega) (by omega)]; rfl)
      | (rw [if_neg (by omega), if_neg (by omega), if_neg (by omega)]; rfl)
   ·skip
    refine SW.skip ?_
    refine hK7 _ _ _ ?_
    refine SW.seq_k fun K10 hK10 => ?_
    refine SW.region _ _ _ _ ?_
    refine RL.p T ?_
    refine RL.p T ?_
    refine RL.nil _ _ _ _ ?_
    refine hK10 _ _ _ ?_
    refine SW.ret ?_
    refine retQ.rr (H) ?_
    clear hK10 K10 hK8 K8 hK7 K7 hK5 K5 hK4 K4 hK2 K2 hK1 K1 hK0 K0
    refine ⟨?_, rfl⟩
    unfold sizeS
    first
      | (rw [if_pos (by omega)]; rfl)
      | (rw [if_neg (by omega), if_pos (by omega)]; rfl)
      | (rw [if_neg (by omega), if_neg (by omega), if_pos (by omega), ← tab7 (by omega) (by omega)]; rfl)
      | (rw [if_neg (by omega), if_neg (by omega), if_neg (by omega)]; rfl)
theorem rcode {w0 : World} {H : List Chunk} (k n : Int) (k0 : -9223372036854775808 ≤ n) (k1 : n ≤ 9223372036854775807) : SC Try.prog w0 55 #[.int .i64 k, .int .i64 n] H (fun v H' => v = .tuple #[.int .i64 (codeS k n).1, .int .i64 (codeS k n).2] ∧ H' = H) := by
 refine SC.enter Try.func55 rfl (Nat.le_of_ble_eq_true rfl) ?_
 refine SW.seq_k fun K0 hK0 => ?_
 refine SW.region _ _ _ _ ?_
 refine RL.p T ?_
 refine RL.p T ?_
 refine RL.nil _ _ _ _ ?_
 refine hK0 _ _ _ ?_
 refine SW.seq_k fun K1 hK1 => ?_
 refine SW.seq_k fun K2 hK2 => ?_
 refine SW.region _ _ _ _ ?_
 refine RL.p T ?_
 refine RL.nil _ _ _ _ ?_
 refine hK2 _ _ _ ?_
 refine SW.block ?_
 refine SW.loopM (fun frB mm fr ds HH => ∃ (k2 : Nat), mm = 2048 - k2 ∧ (k2 ≤ 2048 ∧ (∀ j : Nat, j < k2 → sizeS k j ≠ (n, 0))) ∧ FrIs [4, 5, 6, 7, 8, 9, 10, 11, 12, 13, 14, 15, 16, 17, 18, 19, 20, 21, 22, 23, 24, 25, 26] frB fr [(6, .int .i64 k2)] ∧ ds = [] ∧ HH = H) (n := 2048 - 0) ?_ ?_
 ·exact ⟨0, rfl, ⟨Nat.zero_le _, fun j h => absurd h (Nat.not_lt_zero _)⟩, (.consI rfl (by first | omega | rfl) (.nil (by repeat first | with_reducible exact Mx.refl | with_reducible exact Mx.mix | refine Mx.put rfl ?_ | refine Mx.upd rfl ?_ | refine Mx.updl rfl ?_ | refine Mx.fin rfl ?_ | refine Mx.inner rfl ?_ | refine Mx.none ?_ | exact Mx.refl | exact Mx.mix))), rfl, rfl⟩
 ·rintro mm fr ds HH ⟨k2, rfl, ⟨hk, hno⟩, hFr, rfl, eHH⟩
  obtain rfl := eHH.symm
  obtain ⟨frU, rfl⟩ := hFr.eq
  clear hFr
  refine SW.seq_k fun K3 hK3 => ?_
  refine SW.seq_k fun K4 hK4 => ?_
  refine SW.region _ _ _ _ ?_
  refine RL.p T ?_
  refine RL.p T ?_
  refine RL.nil _ _ _ _ ?_
  refine hK4 _ _ _ ?_
  refine SW.cs (fun hc0 => ?_) (fun hc0 => ?_)
  ·skip
   refine SW.skip ?_
   refine hK3 _ _ _ ?_
   refine SW.seq_k fun K5 hK5 => ?_
   refine SW.block ?_
   refine SW.seq_k fun K6 hK6 => ?_
   refine SW.region _ _ _ _ ?_
   refine RL.p T ?_
   refine RL.p T ?_
   refine RL.c fun65 (fun hs => rsize k k2 (by omega) (by omega)) ?_
   rintro _ _ ⟨rfl, e⟩; obtain rfl := e.symm
   refine RL.p T ?_
   refine RL.p T ?_
   refine RL.p T ?_
   refine RL.p T ?_
   refine RL.p T ?_
   refine RL.nil _ _ _ _ ?_
   refine hK6 _ _ _ ?_
   refine SW.seq_k fun K7 hK7 => ?_
   refine SW.region _ _ _ _ ?_
   refine RL.p T ?_
   refine RL.p T ?_
   refine RL.p T ?_
   refine RL.join (fr1 := ?_) 3 21 true [22, 23, 24] (fun hs0 hj => ?_) ?_ ?_
   rotate_left
   ·have hs0j := hs0
    try simp only [decide_eq_true_eq, Bool.not_eq_true', decide_eq_false_iff_not, Bool.not_eq_false', Int.not_lt, Int.not_le, Int.toNat_natCast, Bool.and_eq_true, Bool.or_eq_true, Bool.and_eq_false_iff, Bool.or_eq_false_iff] at hs0
    refine RL.p T ?_
    refine RL.p T ?_
    refine RL.p T ?_
    exact hj
   ·repeat first | with_reducible exact Mx.refl | with_reducible exact Mx.mix | refine Mx.put rfl ?_ | refine Mx.upd rfl ?_ | refine Mx.updl rfl ?_ | refine Mx.fin rfl ?_ | refine Mx.inner rfl ?_ | refine Mx.none ?_ | exact Mx.refl | exact Mx.mix
   refine RL.and ?_
   refine RL.nil _ _ _ _ ?_
   refine hK7 _ _ _ ?_
   refine SW.cs (fun hc1 => ?_) (fun hc1 => ?_)
   ·skip
    refine SW.seq_k fun K8 hK8 => ?_
    refine SW.region _ _ _ _ ?_
    refine RL.p T ?_
    refine RL.p T ?_
    refine RL.p T ?_
    refine RL.nil _ _ _ _ ?_
    refine hK8 _ _ _ ?_
    refine SW.ret ?_
    refine retQ.rr (H) ?_
    clear hK8 K8 hK7 K7 hK6 K6 hK5 K5 hK4 K4 hK3 K3 hK2 K2 hK1 K1 hK0 K0
    refine ⟨?_, rfl⟩
    first
      | (rw [code_hit (k := k2) (n := n) (Prod.ext hc1.2 hc1.1)]; rfl)
      | (rw [code_miss (fun j hj => hno j (by omega))]; rfl)
   ·skip
    refine SW.skip ?_
    refine hK5 _ _ _ ?_
    refine SW.region _ _ _ _ ?_
    refine RL.p T ?_
    first | refine RL.ar ?_ | refine RL.p T ?_
    refine RL.p T ?_
    refine RL.nil _ _ _ _ ?_
    exact ⟨2048 - (k2 + 1), (by omega), k2 + 1, (by rfl), ⟨by omega, fun j hj he => by
      rcases Nat.lt_or_ge j k2 with h | h
      · exact hno j h he
      · obtain rfl : j = k2 := by omega
        rw [he] at hc1; simp at hc1⟩, (.consI rfl (by first | omega | rfl) (.nil (by repeat first | with_reducible exact Mx.refl | with_reducible exact Mx.mix | refine Mx.put rfl ?_ | refine Mx.upd rfl ?_ | refine Mx.updl rfl ?_ | refine Mx.fin rfl ?_ | refine Mx.inner rfl ?_ | refine Mx.none ?_ | exact Mx.refl | exact Mx.mix))), rfl, rfl⟩
  ·skip
   refine SW.exit ?_
   refine hK1 _ _ _ ?_
   refine SW.seq_k fun K9 hK9 => ?_
   refine SW.region _ _ _ _ ?_
   refine RL.p T ?_
   refine RL.p T ?_
   refine RL.nil _ _ _ _ ?_
   refine hK9 _ _ _ ?_
   refine SW.ret ?_
   refine retQ.rr (H) ?_
   clear hK9 K9 hK4 K4 hK3 K3 hK2 K2 hK1 K1 hK0 K0
   refine ⟨?_, rfl⟩
   first
     | (rw [code_hit (k := k2) (n := n) (Prod.ext hc1.2 hc1.1)]; rfl)
     | (rw [code_miss (fun j hj => hno j (by omega))]; rfl)
theorem same {w0 : World} {H : List Chunk} (sa sb : Option Addr) (n c nb cb : Nat) (es fs : List Int) (hR : Rd w0 H sa n c 1 (es.map (.int .u8))) (hS : Rd w0 H sb nb cb 1 (fs.map (.int .u8))) (hn : n = es.length) (hm : nb = fs.length) (hm1 : n ≤ 140737488351232) (hm2 : nb ≤ 140737488351232) : SC Try.prog w0 54 #[.slice sa n c, .slice sb nb cb] H (fun v H' => v = .bool (decide (es = fs)) ∧ H' = H) := by
 refine SC.enter Try.func54 rfl (Nat.le_of_ble_eq_true rfl) ?_
 refine SW.seq_k fun K0 hK0 => ?_
 refine SW.region _ _ _ _ ?_
 refine RL.p T ?_
 refine RL.nil _ _ _ _ ?_
 refine hK0 _ _ _ ?_
 refine SW.seq_k fun K1 hK1 => ?_
 refine SW.seq_k fun K2 hK2 => ?_
 refine SW.region _ _ _ _ ?_
 refine RL.p T ?_
 refine RL.p T ?_
 refine RL.p T ?_
 refine RL.p T ?_
 refine RL.p T ?_
 refine RL.nil _ _ _ _ ?_
 refine hK2 _ _ _ ?_
 refine SW.cs (fun hc0 => ?_) (fun hc0 => ?_)
 ·skip
  refine SW.seq_k fun K3 hK3 => ?_
  refine SW.region _ _ _ _ ?_
  refine RL.p T ?_
  refine RL.nil _ _ _ _ ?_
  refine hK3 _ _ _ ?_
  refine SW.ret ?_
  refine retQ.rr (H) ?_
  clear hK3 K3 hK2 K2 hK1 K1 hK0 K0
  refine ⟨boolE ?_, rfl⟩; first | (rw [same_len (by omega)]; done) | (rw [same_ne (k := k) (by omega)]; done) | (rw [same_end (k := k) (by omega) (by omega) hb]; done)
 ·skip
  refine SW.skip ?_
  refine hK1 _ _ _ ?_
  refine SW.seq_k fun K4 hK4 => ?_
  refine SW.seq_k fun K5 hK5 => ?_
  refine SW.region _ _ _ _ ?_
  refine RL.p T ?_
  refine RL.p T ?_
  refine RL.p T ?_
  refine RL.nil _ _ _ _ ?_
  refine hK5 _ _ _ ?_
  refine SW.block ?_
  refine SW.loopM (fun frB mm fr ds HH => ∃ (k : Nat) , mm = n - k ∧ (k ≤ n ∧ (es.take k = fs.take k)) ∧ FrIs [4, 5, 13, 14, 15, 16, 17, 18, 19, 20, 21, 22, 23, 24, 25] frB fr [(13, .int .i64 k)] ∧ ds = [] ∧ HH = H) (n := n - 0) ?_ ?_
  ·exact ⟨0, rfl, ⟨Nat.zero_le _, rfl⟩, (.cons rfl (.nil (by repeat first | with_reducible exact Mx.refl | with_reducible exact Mx.mix | refine Mx.put rfl ?_ | refine Mx.upd rfl ?_ | refine Mx.updl rfl ?_ | refine Mx.fin rfl ?_ | refine Mx.inner rfl ?_ | refine Mx.none ?_ | exact Mx.refl | exact Mx.mix))), rfl, rfl⟩
  ·rintro mm fr ds HH ⟨k, rfl, ⟨hk, hb⟩, hFr, rfl, eHH⟩
   obtain rfl := eHH.symm
   obtain ⟨frU, rfl⟩ := hFr.eq
   clear hFr
   refine SW.seq_k fun K6 hK6 => ?_
   refine SW.region _ _ _ _ ?_
   refine RL.p T ?_
   refine RL.nil _ _ _ _ ?_
   refine hK6 _ _ _ ?_
   refine SW.seq_k fun K7 hK7 => ?_
   refine SW.cs (fun hc1 => ?_) (fun hc1 => ?_)
   ·skip
    refine SW.skip ?_
    refine hK7 _ _ _ ?_
    refine SW.seq_k fun K8 hK8 => ?_
    refine SW.block ?_
    refine SW.seq_k fun K9 hK9 => ?_
    refine SW.region _ _ _ _ ?_
    refine RL.p T ?_
    refine RL.p T ?_
    refine RL.nil _ _ _ _ ?_
    refine hK9 _ _ _ ?_
    refine SW.seq_k fun K10 hK10 => ?_
    refine SW.drawQ [(16, 0), (17, 1), (18, 2), (19, 3), (20, 4), (21, 5), (22, 6), (23, 7), (24, 8)] [[], [], [0, 1], [2, 0, 1], [], [], [4, 5], [6, 4, 5], [3, 2, 0, 1, 7, 6, 4, 5]] mixed (by kernel_rfl) (by kernel_rfl) ?_
    refine QL.p T ?_
    refine QL.p T ?_
    refine QL.ix T ?_ (hR := fun hs => (by first | exact hR | exact hS))
    refine QL.le T ?_ (hR := fun hs => (by first | exact hR | exact hS))
    refine QL.p T ?_
    refine QL.p T ?_
    refine QL.ix T ?_ (hR := fun hs => (by first | exact hR | exact hS))
    refine QL.le T ?_ (hR := fun hs => (by first | exact hR | exact hS))
    refine QL.p T ?_
    refine QL.nil ?_
    refine hK10 _ _ _ ?_
    refine SW.cs (fun hc2 => ?_) (fun hc2 => ?_)
    ·skip
     refine SW.seq_k fun K11 hK11 => ?_
     refine SW.region _ _ _ _ ?_
     refine RL.p T ?_
     refine RL.nil _ _ _ _ ?_
     refine hK11 _ _ _ ?_
     refine SW.ret ?_
     refine retQ.rr (H) ?_
     clear hK11 K11 hK10 K10 hK9 K9 hK8 K8 hK7 K7 hK6 K6 hK5 K5 hK4 K4 hK2 K2 hK1 K1 hK0 K0
     refine ⟨boolE ?_, rfl⟩; first | (rw [same_len (by omega)]; done) | (rw [same_ne (k := k) (by omega)]; done) | (rw [same_end (k := k) (by omega) (by omega) hb]; done)
    ·skip
     refine SW.skip ?_
     refine hK8 _ _ _ ?_
     refine SW.region _ _ _ _ ?_
     first | refine RL.ar ?_ | refine RL.p T ?_
     refine RL.p T ?_
     refine RL.nil _ _ _ _ ?_
     exact ⟨n - (k + 1), (by omega), k + 1, (by rfl), ⟨by omega, same_step (by omega) (by omega) hb (by omega)⟩, (.cons rfl (.nil (by repeat first | with_reducible exact Mx.refl | with_reducible exact Mx.mix | refine Mx.put rfl ?_ | refine Mx.upd rfl ?_ | refine Mx.updl rfl ?_ | refine Mx.fin rfl ?_ | refine Mx.inner rfl ?_ | refine Mx.none ?_ | exact Mx.refl | exact Mx.mix))), rfl, rfl⟩
   ·skip
    refine SW.exit ?_
    refine hK4 _ _ _ ?_
    refine SW.seq_k fun K12 hK12 => ?_
    refine SW.region _ _ _ _ ?_
    refine RL.p T ?_
    refine RL.nil _ _ _ _ ?_
    refine hK12 _ _ _ ?_
    refine SW.ret ?_
    refine retQ.rr (H) ?_
    clear hK12 K12 hK7 K7 hK6 K6 hK5 K5 hK4 K4 hK2 K2 hK1 K1 hK0 K0
    refine ⟨boolE ?_, rfl⟩; first | (rw [same_len (by omega)]; done) | (rw [same_ne (k := k) (by omega)]; done) | (rw [same_end (k := k) (by omega) (by omega) hb]; done)
theorem bequal {w0 : World} {H : List Chunk} (sa sb : Option Addr) (n c nb cb : Nat) (es fs : List Int) (hR : Rd w0 H sa n c 1 (es.map (.int .u8))) (hS : Rd w0 H sb nb cb 1 (fs.map (.int .u8))) (hb : Byte es) (hb2 : Byte fs) : SC Try.prog w0 47 #[.slice sa n c, .slice sb nb cb] H (fun v H' => v = .bool (decide (es = fs)) ∧ H' = H) := by
 refine SC.enter Try.func47 rfl (Nat.le_of_ble_eq_true rfl) ?_
 refine SW.seq_k fun K0 hK0 => ?_
 refine SW.region _ _ _ _ ?_
 refine RL.p T ?_
 refine RL.nil _ _ _ _ ?_
 refine hK0 _ _ _ ?_
 refine SW.seq_k fun K1 hK1 => ?_
 refine SW.region _ _ _ _ ?_
 refine RL.p T ?_
 first | refine RL.cv T ?_ | refine RL.p T ?_ | refine RL.ts T ?_
 refine RL.p T ?_
 first | refine RL.cv T ?_ | refine RL.p T ?_ | refine RL.ts T ?_
 refine RL.p T ?_
 refine RL.p T ?_
 refine RL.nil _ _ _ _ ?_
 refine hK1 _ _ _ ?_
 refine SW.ret ?_
 refine retQ.rr (H) ?_
 clear hK1 K1 hK0 K0
 refine ⟨boolE ?_, rfl⟩; exact strI_beq hb hb2
theorem clone0 {w0 : World} {H : List Chunk} (n c : Nat) : SC Try.prog w0 46 #[.slice none n c] H (fun v H' => v = .slice none 0 0 ∧ H' = H) := by
 refine SC.enter Try.func46 rfl (Nat.le_of_ble_eq_true rfl) ?_
 refine SW.seq_k fun K0 hK0 => ?_
 refine SW.region _ _ _ _ ?_
 refine RL.p T ?_
 refine RL.nil _ _ _ _ ?_
 refine hK0 _ _ _ ?_
 refine SW.seq_k fun K1 hK1 => ?_
 refine SW.seq_k fun K2 hK2 => ?_
 refine SW.region _ _ _ _ ?_
 refine RL.p T ?_
 refine RL.p T ?_
 refine RL.nil _ _ _ _ ?_
 refine hK2 _ _ _ ?_
 refine SW.cs (fun hc0 => ?_) (fun hc0 => ?_)
 ·skip
  first
   | (exfalso; first | contradiction | (simp at hc0; done))
   | (
    refine SW.seq_k fun K3 hK3 => ?_
    refine SW.region _ _ _ _ ?_
    refine RL.p T ?_
    refine RL.nil _ _ _ _ ?_
    refine hK3 _ _ _ ?_
    refine SW.ret ?_
    refine retQ.rr (H) ?_
    clear hK3 K3 hK2 K2 hK1 K1 hK0 K0
    exact ⟨rfl, rfl⟩
    )
 ·skip
  first
   | (exfalso; first | contradiction | (simp at hc0; done))
   | (
    refine SW.skip ?_
    refine hK1 _ _ _ ?_
    refine SW.seq_k fun K4 hK4 => ?_
    refine SW.region _ _ _ _ ?_
    refine RL.bs T rfl rfl rfl (by exact (rfl : _ = some [])) (fun b5_0 => ?_)
    refine RL.p T ?_
    first | refine RL.apI1 (ki := .u8) T (fun a0_ c0_ => ?_) | refine RL.apI (ki := .u8) T (fun a0_ c0_ => ?_) | refine RL.apI (ki := .u8) (xs := []) T (fun a0_ c0_ => ?_)
    refine RL.p T ?_
    refine RL.nil _ _ _ _ ?_
    refine hK4 _ _ _ ?_
    refine SW.ret ?_
    refine retQ.rr (H) ?_
    clear hK4 K4 hK2 K2 hK1 K1 hK0 K0
    exact ⟨rfl, rfl⟩
    )
theorem clone1 {w0 : World} {H : List Chunk} (p : Addr) (n c : Nat) (es : List Int) (hR : Rd w0 H (some p) n c 1 (es.map (.int .u8))) (hn : n = es.length) (hm : n ≤ 140737488351232) : SC Try.prog w0 46 #[.slice (some p) n c] H (fun v H' => ∃ a' c', v = .slice a' es.length c' ∧ H' = .row a' es.length c' 5 1 (es.map (.int .u8)) :: H) := by
 refine SC.enter Try.func46 rfl (Nat.le_of_ble_eq_true rfl) ?_
 refine SW.seq_k fun K0 hK0 => ?_
 refine SW.region _ _ _ _ ?_
 refine RL.p T ?_
 refine RL.nil _ _ _ _ ?_
 refine hK0 _ _ _ ?_
 refine SW.seq_k fun K1 hK1 => ?_
 refine SW.seq_k fun K2 hK2 => ?_
 refine SW.region _ _ _ _ ?_
 refine RL.p T ?_
 refine RL.p T ?_
 refine RL.nil _ _ _ _ ?_
 refine hK2 _ _ _ ?_
 refine SW.cs (fun hc0 => ?_) (fun hc0 => ?_)
 ·skip
  first
   | (exfalso; first | contradiction | (simp at hc0; done))
   | (
    refine SW.seq_k fun K3 hK3 => ?_
    refine SW.region _ _ _ _ ?_
    refine RL.p T ?_
    refine RL.nil _ _ _ _ ?_
    refine hK3 _ _ _ ?_
    refine SW.ret ?_
    refine retQ.rr _ ?_ (hH := fun w hw => hw)
    clear hK3 K3 hK2 K2 hK1 K1 hK0 K0
    exact ⟨a0_, c0_, by rw [Nat.zero_add]; rfl, by rw [Nat.zero_add, List.nil_append]⟩
    )
 ·skip
  first
   | (exfalso; first | contradiction | (simp at hc0; done))
   | (
    refine SW.skip ?_
    refine hK1 _ _ _ ?_
    refine SW.seq_k fun K4 hK4 => ?_
    refine SW.region _ _ _ _ ?_
    refine RL.bs T rfl rfl rfl (by exact (rfl : _ = some [])) (fun b5_0 => ?_)
    obtain rfl := hn
    refine RL.p T ?_
    first | refine RL.apI1 (ki := .u8) T (fun a0_ c0_ => ?_) | refine RL.apI (ki := .u8) T (fun a0_ c0_ => ?_) | refine RL.apI (ki := .u8) (xs := []) T (fun a0_ c0_ => ?_)
    refine RL.p T ?_
    refine RL.nil _ _ _ _ ?_
    refine hK4 _ _ _ ?_
    refine SW.ret ?_
    refine retQ.rr _ ?_ (hH := fun w hw => hw)
    clear hK4 K4 hK2 K2 hK1 K1 hK0 K0
    exact ⟨a0_, c0_, by rw [Nat.zero_add]; rfl, by rw [Nat.zero_add, List.nil_append]⟩
    )
theorem clone {w0 : World} {H : List Chunk} (sa : Option Addr) (n c : Nat) (es : List Int) (hR : Rd w0 H sa n c 1 (es.map (.int .u8))) (hn : n = es.length) (hm : n ≤ 140737488351232) : SC Try.prog w0 46 #[.slice sa n c] H (fun v H' => ∃ a' c', v = .slice a' es.length c' ∧ H' = .row a' es.length c' 5 1 (es.map (.int .u8)) :: H) := by
  cases sa with
  | none =>
    have h0 : n = 0 := by
      rcases Nat.eq_zero_or_pos n with h | h
      · exact h
      · cases hR.some h
    have he : es = [] := List.eq_nil_of_length_eq_zero (by omega)
    subst he
    refine SC.nilrow 5 1 ((clone0 n c).mono ?_)
    rintro _ _ ⟨rfl, rfl⟩
    exact ⟨none, 0, rfl, rfl⟩
  | some p => exact clone1 p n c es hR hn hm
theorem fsame {w0 : World} {H : List Chunk} (f : Frm) (sa : Option Addr) (n c : Nat) (hR : Rd w0 H sa n c 1 (f.data.map (.int .u8))) (hn : n = f.data.length) (hm : n ≤ 140737488351232) (hf : FrOk f) (g : Frm) (sb : Option Addr) (m d : Nat) (hS : Rd w0 H sb m d 1 (g.data.map (.int .u8))) (hn2 : m = g.data.length) (hm2 : m ≤ 140737488351232) (hg : FrOk g) : SC Try.prog w0 29 #[FA f sa n c, FA g sb m d] H (fun v H' => v = .bool (sameF f g) ∧ H' = H) := by
 refine SC.enter Try.func29 rfl (Nat.le_of_ble_eq_true rfl) ?_
 refine SW.seq_k fun K0 hK0 => ?_
 refine SW.region _ _ _ _ ?_
 refine RL.s ?_
 refine NV.box rfl (by exact (rfl : _ = [_, _, _, _, _, _, _, _, _, _, _])) ?_
 intro b2_0
 refine RL.s ?_
 refine NV.box rfl (by exact (rfl : _ = [_, _, _, _, _, _, _, _, _, _, _])) ?_
 intro b3_1
 refine RL.p T ?_
 refine RL.nil _ _ _ _ ?_
 refine hK0 _ _ _ ?_
 refine SW.seq_k fun K1 hK1 => ?_
 refine SW.region _ _ _ _ ?_
 refine RL.p T ?_
 refine RL.lv1 T ?_
 refine RL.p T ?_
 refine RL.lv1 T ?_
 refine RL.p T ?_
 refine RL.p T ?_
 refine RL.join (fr1 := ?_) 5 10 true [11, 12, 13, 14, 15] (fun hs0 hj => ?_) ?_ ?_
 rotate_left
 ·have hs0j := hs0
  try simp only [decide_eq_true_eq, Bool.not_eq_true', decide_eq_false_iff_not, Bool.not_eq_false', Int.not_lt, Int.not_le, Int.toNat_natCast, Bool.and_eq_true, Bool.or_eq_true, Bool.and_eq_false_iff, Bool.or_eq_false_iff] at hs0
  refine RL.p T ?_
  refine RL.lv1 T ?_
  refine RL.p T ?_
  refine RL.lv1 T ?_
  refine RL.p T ?_
  exact hj
 ·repeat first | with_reducible exact Mx.refl | with_reducible exact Mx.mix | refine Mx.put rfl ?_ | refine Mx.upd rfl ?_ | refine Mx.updl rfl ?_ | refine Mx.fin rfl ?_ | refine Mx.inner rfl ?_ | refine Mx.none ?_ | exact Mx.refl | exact Mx.mix
 refine RL.and ?_
 refine RL.p T ?_
 refine RL.join (fr1 := ?_) 23 17 true [18, 19, 20, 21, 22, 23, 24, 25, 26, 27, 28, 29, 30, 31, 32, 33, 34, 35, 36, 37, 38, 39, 40] (fun hs1 hj => ?_) ?_ ?_
 rotate_left
 ·have hs1j := hs1
  try simp only [decide_eq_true_eq, Bool.not_eq_true', decide_eq_false_iff_not, Bool.not_eq_false', Int.not_lt, Int.not_le, Int.toNat_natCast, Bool.and_eq_true, Bool.or_eq_true, Bool.and_eq_false_iff, Bool.or_eq_false_iff] at hs1
  refine RL.p T ?_
  refine RL.lv1 T ?_
  refine RL.p T ?_
  refine RL.lv1 T ?_
  refine RL.p T ?_
  refine RL.lv1 T ?_
  refine RL.p T ?_
  refine RL.lv1 T ?_
  refine RL.p T ?_
  refine RL.lv1 T ?_
  refine RL.s ?_
  first | refine NV.buildc T rfl (rfl : _ = some [_, _, _, _, _]) ?_ | refine NV.buildz T rfl (rfl : _ = some [_, _, _, _, _]) ?_ | refine NV.pure T (rfl : _ = some (Value.agg #[_, _, _, _, _])) ?_
  refine RL.p T ?_
  refine RL.lv1 T ?_
  refine RL.p T ?_
  refine RL.lv1 T ?_
  refine RL.p T ?_
  refine RL.lv1 T ?_
  refine RL.p T ?_
  refine RL.lv1 T ?_
  refine RL.p T ?_
  refine RL.lv1 T ?_
  refine RL.s ?_
  first | refine NV.buildc T rfl (rfl : _ = some [_, _, _, _, _]) ?_ | refine NV.buildz T rfl (rfl : _ = some [_, _, _, _, _]) ?_ | refine NV.pure T (rfl : _ = some (Value.agg #[_, _, _, _, _])) ?_
  refine RL.s ?_
  refine NV.eqd T PL rfl rfl rfl Try.eqGuardType94 rfl ?_
  exact hj
 ·repeat first | with_reducible exact Mx.refl | with_reducible exact Mx.mix | refine Mx.put rfl ?_ | refine Mx.upd rfl ?_ | refine Mx.updl rfl ?_ | refine Mx.fin rfl ?_ | refine Mx.inner rfl ?_ | refine Mx.none ?_ | exact Mx.refl | exact Mx.mix
 refine RL.and ?_
 refine RL.p T ?_
 refine RL.join (fr1 := ?_) 5 42 true [43, 44, 45, 46, 47] (fun hs2 hj => ?_) ?_ ?_
 rotate_left
 ·have hs2j := hs2
  try simp only [decide_eq_true_eq, Bool.not_eq_true', decide_eq_false_iff_not, Bool.not_eq_false', Int.not_lt, Int.not_le, Int.toNat_natCast, Bool.and_eq_true, Bool.or_eq_true, Bool.and_eq_false_iff, Bool.or_eq_false_iff] at hs2
  refine RL.p T ?_
  refine RL.lv1 T ?_
  refine RL.p T ?_
  refine RL.lv1 T ?_
  refine RL.p T ?_
  exact hj
 ·repeat first | with_reducible exact Mx.refl | with_reducible exact Mx.mix | refine Mx.put rfl ?_ | refine Mx.upd rfl ?_ | refine Mx.updl rfl ?_ | refine Mx.fin rfl ?_ | refine Mx.inner rfl ?_ | refine Mx.none ?_ | exact Mx.refl | exact Mx.mix
 refine RL.and ?_
 refine RL.p T ?_
 refine RL.join (fr1 := ?_) 5 49 true [50, 51, 52, 53, 54] (fun hs3 hj => ?_) ?_ ?_
 rotate_left
 ·have hs3j := hs3
  try simp only [decide_eq_true_eq, Bool.not_eq_true', decide_eq_false_iff_not, Bool.not_eq_false', Int.not_lt, Int.not_le, Int.toNat_natCast, Bool.and_eq_true, Bool.or_eq_true, Bool.and_eq_false_iff, Bool.or_eq_false_iff] at hs3
  refine RL.p T ?_
  refine RL.lv1 T ?_
  refine RL.p T ?_
  refine RL.lv1 T ?_
  refine RL.p T ?_
  exact hj
 ·repeat first | with_reducible exact Mx.refl | with_reducible exact Mx.mix | refine Mx.put rfl ?_ | refine Mx.upd rfl ?_ | refine Mx.updl rfl ?_ | refine Mx.fin rfl ?_ | refine Mx.inner rfl ?_ | refine Mx.none ?_ | exact Mx.refl | exact Mx.mix
 refine RL.and ?_
 refine RL.p T ?_
 refine RL.join (fr1 := ?_) 5 56 true [57, 58, 59, 60, 61] (fun hs4 hj => ?_) ?_ ?_
 rotate_left
 ·have hs4j := hs4
  try simp only [decide_eq_true_eq, Bool.not_eq_true', decide_eq_false_iff_not, Bool.not_eq_false', Int.not_lt, Int.not_le, Int.toNat_natCast, Bool.and_eq_true, Bool.or_eq_true, Bool.and_eq_false_iff, Bool.or_eq_false_iff] at hs4
  refine RL.p T ?_
  refine RL.lv1 T ?_
  refine RL.p T ?_
  refine RL.lv1 T ?_
  refine RL.p T ?_
  exact hj
 ·repeat first | with_reducible exact Mx.refl | with_reducible exact Mx.mix | refine Mx.put rfl ?_ | refine Mx.upd rfl ?_ | refine Mx.updl rfl ?_ | refine Mx.fin rfl ?_ | refine Mx.inner rfl ?_ | refine Mx.none ?_ | exact Mx.refl | exact Mx.mix
 refine RL.and ?_
 refine RL.p T ?_
 refine RL.join (fr1 := ?_) 5 63 true [64, 65, 66, 67, 68] (fun hs5 hj => ?_) ?_ ?_
 rotate_left
 ·have hs5j := hs5
  try simp only [decide_eq_true_eq, Bool.not_eq_true', decide_eq_false_iff_not, Bool.not_eq_false', Int.not_lt, Int.not_le, Int.toNat_natCast, Bool.and_eq_true, Bool.or_eq_true, Bool.and_eq_false_iff, Bool.or_eq_false_iff] at hs5
  refine RL.p T ?_
  refine RL.lv1 T ?_
  refine RL.p T ?_
  refine RL.lv1 T ?_
  refine RL.c fun47 (fun hs => bequal sa sb n c m d f.data g.data hR.cons.cons hS.cons.cons hf.data hg.data) ?_
  rintro _ _ ⟨rfl, e⟩; obtain rfl := e.symm
  exact hj
 ·repeat first | with_reducible exact Mx.refl | with_reducible exact Mx.mix | refine Mx.put rfl ?_ | refine Mx.upd rfl ?_ | refine Mx.updl rfl ?_ | refine Mx.fin rfl ?_ | refine Mx.inner rfl ?_ | refine Mx.none ?_ | exact Mx.refl | exact Mx.mix
 refine RL.and ?_
 refine RL.p T ?_
 refine RL.nil _ _ _ _ ?_
 refine hK1 _ _ _ ?_
 refine SW.ret ?_
 refine retQ.rr (H) ?_
 clear hK1 K1 hK0 K0
 refine ⟨boolE ?_, rfl⟩
 unfold sameF
 simp only [Bool.and_assoc, Bool.and_true]
theorem fbare {w0 : World} {H : List Chunk} (f : Frm) (sa : Option Addr) (n c : Nat) (hR : Rd w0 H sa n c 1 (f.data.map (.int .u8))) (hn : n = f.data.length) (hm : n ≤ 140737488351232) (hf : FrOk f) : SC Try.prog w0 34 #[FA f sa n c] H (fun v H' => v = FA (bareF f) none 0 0 ∧ H' = H) := by
 refine SC.enter Try.func34 rfl (Nat.le_of_ble_eq_true rfl) ?_
 refine SW.seq_k fun K0 hK0 => ?_
 refine SW.region _ _ _ _ ?_
 refine RL.s ?_
 refine NV.box rfl (by exact (rfl : _ = [_, _, _, _, _, _, _, _, _, _, _])) ?_
 intro b1_0
 refine RL.s ?_
 refine NV.alloc T rfl rfl rfl (by exact (rfl : _ = [_, _, _, _, _, _, _, _, _, _, _])) ?_
 intro b2_1
 refine RL.nil _ _ _ _ ?_
 refine hK0 _ _ _ ?_
 refine SW.seq_k fun K1 hK1 => ?_
 refine SW.seq_k fun K2 hK2 => ?_
 refine SW.region _ _ _ _ ?_
 refine RL.p T ?_
 refine RL.lv1 T ?_
 refine RL.nil _ _ _ _ ?_
 refine hK2 _ _ _ ?_
 refine SW.block ?_
 refine SW.seq_k fun K3 hK3 => ?_
 refine SW.region _ _ _ _ ?_
 refine RL.p T ?_
 refine RL.p T ?_
 refine RL.nil _ _ _ _ ?_
 refine hK3 _ _ _ ?_
 refine SW.cs (fun hc0 => ?_) (fun hc0 => ?_)
 ·skip
  refine SW.region _ _ _ _ ?_
  refine RL.p T ?_
  refine RL.sv1 T ?_
  refine RL.p T ?_
  refine RL.sv1 T ?_
  refine RL.nil _ _ _ _ ?_
  refine hK1 _ _ _ ?_
  refine SW.seq_k fun K4 hK4 => ?_
  refine SW.region _ _ _ _ ?_
  refine RL.p T ?_
  refine RL.sv1 T ?_
  refine RL.p T ?_
  refine RL.sv1 T ?_
  refine RL.nil _ _ _ _ ?_
  refine hK4 _ _ _ ?_
  refine SW.seq_k fun K5 hK5 => ?_
  refine SW.region _ _ _ _ ?_
  refine RL.q (QV.vN T rfl rfl rfl rfl rfl (by exact (rfl : _ = [_, _, _, _, _, _, _, _, _, _, _]))) ?_
  refine RL.s ?_
  refine NV.sN T rfl rfl rfl (by exact (rfl : _ = [_, _, _, _, _, _, _, _, _, _, _])) (by exact (rfl : _ = [_, _, _, _, _, _, _, _, _, _, _])) ?_
  refine RL.nil _ _ _ _ ?_
  refine hK5 _ _ _ ?_
  refine SW.ret ?_
  refine retQ.ra (H) (RVs.cN T rfl rfl rfl rfl (by exact (rfl : _ = [_, _, _, _, _, _, _, _, _, _, _])) RVs.nil) ?_
  clear hK5 K5 hK4 K4 hK3 K3 hK2 K2 hK1 K1 hK0 K0
  refine ⟨?_, rfl⟩
  unfold bareF
  first
    | (rw [if_pos (by omega)]; rfl)
    | (rw [if_neg (by omega), if_pos (by omega)]; rfl)
    | (rw [if_neg (by omega), if_neg (by omega), if_pos (by omega)]; rfl)
    | (rw [if_neg (by omega), if_neg (by omega), if_neg (by omega)]; rfl)
 ·skip
  refine SW.seq_k fun K6 hK6 => ?_
  refine SW.region _ _ _ _ ?_
  refine RL.p T ?_
  refine RL.p T ?_
  refine RL.nil _ _ _ _ ?_
  refine hK6 _ _ _ ?_
  refine SW.cs (fun hc1 => ?_) (fun hc1 => ?_)
  ·skip
   refine SW.region _ _ _ _ ?_
   refine RL.p T ?_
   refine RL.sv1 T ?_
   refine RL.p T ?_
   refine RL.sv1 T ?_
   refine RL.nil _ _ _ _ ?_
   refine hK1 _ _ _ ?_
   refine SW.seq_k fun K7 hK7 => ?_
   refine SW.region _ _ _ _ ?_
   refine RL.p T ?_
   refine RL.sv1 T ?_
   refine RL.p T ?_
   refine RL.sv1 T ?_
   refine RL.nil _ _ _ _ ?_
   refine hK7 _ _ _ ?_
   refine SW.seq_k fun K8 hK8 => ?_
   refine SW.region _ _ _ _ ?_
   refine RL.q (QV.vN T rfl rfl rfl rfl rfl (by exact (rfl : _ = [_, _, _, _, _, _, _, _, _, _, _]))) ?_
   refine RL.s ?_
   refine NV.sN T rfl rfl rfl (by exact (rfl : _ = [_, _, _, _, _, _, _, _, _, _, _])) (by exact (rfl : _ = [_, _, _, _, _, _, _, _, _, _, _])) ?_
   refine RL.nil _ _ _ _ ?_
   refine hK8 _ _ _ ?_
   refine SW.ret ?_
   refine retQ.ra (H) (RVs.cN T rfl rfl rfl rfl (by exact (rfl : _ = [_, _, _, _, _, _, _, _, _, _, _])) RVs.nil) ?_
   clear hK8 K8 hK7 K7 hK6 K6 hK3 K3 hK2 K2 hK1 K1 hK0 K0
   refine ⟨?_, rfl⟩
   unfold bareF
   first
     | (rw [if_pos (by omega)]; rfl)
     | (rw [if_neg (by omega), if_pos (by omega)]; rfl)
     | (rw [if_neg (by omega), if_neg (by omega), if_pos (by omega)]; rfl)
     | (rw [if_neg (by omega), if_neg (by omega), if_neg (by omega)]; rfl)
  ·skip
   refine SW.seq_k fun K9 hK9 => ?_
   refine SW.region _ _ _ _ ?_
   refine RL.p T ?_
   refine RL.p T ?_
   refine RL.nil _ _ _ _ ?_
   refine hK9 _ _ _ ?_
   refine SW.cs (fun hc2 => ?_) (fun hc2 => ?_)
   ·skip
    refine SW.region _ _ _ _ ?_
    refine RL.p T ?_
    refine RL.sv1 T ?_
    refine RL.p T ?_
    refine RL.sv1 T ?_
    refine RL.p T ?_
    refine RL.sv1 T ?_
    refine RL.p T ?_
    refine RL.sv1 T ?_
    refine RL.nil _ _ _ _ ?_
    refine hK1 _ _ _ ?_
    refine SW.seq_k fun K10 hK10 => ?_
    refine SW.region _ _ _ _ ?_
    refine RL.p T ?_
    refine RL.sv1 T ?_
    refine RL.p T ?_
    refine RL.sv1 T ?_
    refine RL.nil _ _ _ _ ?_
    refine hK10 _ _ _ ?_
    refine SW.seq_k fun K11 hK11 => ?_
    refine SW.region _ _ _ _ ?_
    refine RL.q (QV.vN T rfl rfl rfl rfl rfl (by exact (rfl : _ = [_, _, _, _, _, _, _, _, _, _, _]))) ?_
    refine RL.s ?_
    refine NV.sN T rfl rfl rfl (by exact (rfl : _ = [_, _, _, _, _, _, _, _, _, _, _])) (by exact (rfl : _ = [_, _, _, _, _, _, _, _, _, _, _])) ?_
    refine RL.nil _ _ _ _ ?_
    refine hK11 _ _ _ ?_
    refine SW.ret ?_
    refine retQ.ra (H) (RVs.cN T rfl rfl rfl rfl (by exact (rfl : _ = [_, _, _, _, _, _, _, _, _, _, _])) RVs.nil) ?_
    clear hK11 K11 hK10 K10 hK9 K9 hK6 K6 hK3 K3 hK2 K2 hK1 K1 hK0 K0
    refine ⟨?_, rfl⟩
    unfold bareF
    first
      | (rw [if_pos (by omega)]; rfl)
      | (rw [if_neg (by omega), if_pos (by omega)]; rfl)
      | (rw [if_neg (by omega), if_neg (by omega), if_pos (by omega)]; rfl)
      | (rw [if_neg (by omega), if_neg (by omega), if_neg (by omega)]; rfl)
   ·skip
    refine SW.skip ?_
    refine hK1 _ _ _ ?_
    refine SW.seq_k fun K12 hK12 => ?_
    refine SW.region _ _ _ _ ?_
    refine RL.p T ?_
    refine RL.sv1 T ?_
    refine RL.p T ?_
    refine RL.sv1 T ?_
    refine RL.nil _ _ _ _ ?_
    refine hK12 _ _ _ ?_
    refine SW.seq_k fun K13 hK13 => ?_
    refine SW.region _ _ _ _ ?_
    refine RL.q (QV.vN T rfl rfl rfl rfl rfl (by exact (rfl : _ = [_, _, _, _, _, _, _, _, _, _, _]))) ?_
    refine RL.s ?_
    refine NV.sN T rfl rfl rfl (by exact (rfl : _ = [_, _, _, _, _, _, _, _, _, _, _])) (by exact (rfl : _ = [_, _, _, _, _, _, _, _, _, _, _])) ?_
    refine RL.nil _ _ _ _ ?_
    refine hK13 _ _ _ ?_
    refine SW.ret ?_
    refine retQ.ra (H) (RVs.cN T rfl rfl rfl rfl (by exact (rfl : _ = [_, _, _, _, _, _, _, _, _, _, _])) RVs.nil) ?_
    clear hK13 K13 hK12 K12 hK9 K9 hK6 K6 hK3 K3 hK2 K2 hK1 K1 hK0 K0
    refine ⟨?_, rfl⟩
    unfold bareF
    first
      | (rw [if_pos (by omega)]; rfl)
      | (rw [if_neg (by omega), if_pos (by omega)]; rfl)
      | (rw [if_neg (by omega), if_neg (by omega), if_pos (by omega)]; rfl)
      | (rw [if_neg (by omega), if_neg (by omega), if_neg (by omega)]; rfl)
theorem fcopy {w0 : World} {H : List Chunk} (f : Frm) (sa : Option Addr) (n c : Nat) (hR : Rd w0 H sa n c 1 (f.data.map (.int .u8))) (hn : n = f.data.length) (hm : n ≤ 140737488351232) (hf : FrOk f) : SC Try.prog w0 28 #[FA f sa n c] H (fun v H' => ∃ a' c', v = FA f a' f.data.length c' ∧ H' = .row a' f.data.length c' 5 1 (f.data.map (.int .u8)) :: H) := by
 refine SC.enter Try.func28 rfl (Nat.le_of_ble_eq_true rfl) ?_
 refine SW.seq_k fun K0 hK0 => ?_
 refine SW.region _ _ _ _ ?_
 refine RL.s ?_
 refine NV.box rfl (by exact (rfl : _ = [_, _, _, _, _, _, _, _, _, _, _])) ?_
 intro b1_0
 refine RL.s ?_
 refine NV.alloc T rfl rfl rfl (by exact (rfl : _ = [_, _, _, _, _, _, _, _, _, _, _])) ?_
 intro b2_1
 refine RL.nil _ _ _ _ ?_
 refine hK0 _ _ _ ?_
 refine SW.seq_k fun K1 hK1 => ?_
 refine SW.region _ _ _ _ ?_
 refine RL.p T ?_
 refine RL.lv1 T ?_
 refine RL.c fun46 (fun hs => clone sa n c f.data hR.cons.cons hn hm) ?_
 rintro _ _ ⟨a1, c1, rfl, e⟩; obtain rfl := e.symm
 refine RL.p T ?_
 refine RL.sv1 T ?_
 refine RL.nil _ _ _ _ ?_
 refine hK1 _ _ _ ?_
 refine SW.seq_k fun K2 hK2 => ?_
 refine SW.region _ _ _ _ ?_
 refine RL.q (QV.vN T rfl rfl rfl rfl rfl (by exact (rfl : _ = [_, _, _, _, _, _, _, _, _, _, _]))) ?_
 refine RL.s ?_
 refine NV.sN T rfl rfl rfl (by exact (rfl : _ = [_, _, _, _, _, _, _, _, _, _, _])) (by exact (rfl : _ = [_, _, _, _, _, _, _, _, _, _, _])) ?_
 refine RL.nil _ _ _ _ ?_
 refine hK2 _ _ _ ?_
 refine SW.ret ?_
 refine retQ.ra ((.row a1 f.data.length c1 5 1 (f.data.map (.int .u8)) :: H)) (RVs.cN T rfl rfl rfl rfl (by exact (rfl : _ = [_, _, _, _, _, _, _, _, _, _, _])) RVs.nil) ?_
 clear hK2 K2 hK1 K1 hK0 K0
 exact ⟨a1, c1, rfl, rfl⟩
theorem fcheck {w0 : World} {H : List Chunk} (f : Frm) (sa : Option Addr) (n c : Nat) (hR : Rd w0 H sa n c 1 (f.data.map (.int .u8))) (hn : n = f.data.length) (hm : n ≤ 140737488351232) (hf : FrOk f) : SC Try.prog w0 12 #[FA f sa n c] H (fun v H' => v = .int .i64 (chkF f) ∧ H' = H) := by
 refine SC.enter Try.func12 rfl (Nat.le_of_ble_eq_true rfl) ?_
 refine SW.seq_k fun K0 hK0 => ?_
 refine SW.region _ _ _ _ ?_
 refine RL.s ?_
 refine NV.box rfl (by exact (rfl : _ = [_, _, _, _, _, _, _, _, _, _, _])) ?_
 intro b1_0
 refine RL.p T ?_
 refine RL.nil _ _ _ _ ?_
 refine hK0 _ _ _ ?_
 refine SW.seq_k fun K1 hK1 => ?_
 refine SW.region _ _ _ _ ?_
 refine RL.p T ?_
 refine RL.nil _ _ _ _ ?_
 refine hK1 _ _ _ ?_
 refine SW.seq_k fun K2 hK2 => ?_
 refine SW.seq_k fun K3 hK3 => ?_
 refine SW.region _ _ _ _ ?_
 refine RL.p T ?_
 refine RL.lv1 T ?_
 refine RL.nil _ _ _ _ ?_
 refine hK3 _ _ _ ?_
 refine SW.cs (fun hc0 => ?_) (fun hc0 => ?_)
 ·skip
  refine SW.region _ _ _ _ ?_
  refine RL.p T ?_
  refine RL.nil _ _ _ _ ?_
  refine hK2 _ _ _ ?_
  refine SW.seq_k fun K4 hK4 => ?_
  refine SW.region _ _ _ _ ?_
  refine RL.p T ?_
  refine RL.lv1 T ?_
  refine RL.p T ?_
  refine RL.lv1 T ?_
  refine RL.p T ?_
  refine RL.c fun33 (fun hs => pCode f.kind n (by omega) (by omega)) ?_
  rintro _ _ ⟨rfl, e⟩; obtain rfl := e.symm
  refine RL.p T ?_
  refine RL.p T ?_
  refine RL.p T ?_
  refine RL.p T ?_
  refine RL.p T ?_
  refine RL.nil _ _ _ _ ?_
  refine hK4 _ _ _ ?_
  refine SW.seq_k fun K5 hK5 => ?_
  refine SW.seq_k fun K6 hK6 => ?_
  refine SW.drawQ [(17, 0), (18, 1), (19, 2), (20, 3), (21, 4), (22, 5), (23, 6), (24, 7), (25, 8), (26, 9), (27, 10), (28, 11), (29, 12), (30, 13), (31, 14), (32, 15), (33, 16), (34, 17), (35, 18), (36, 19), (37, 20), (38, 21), (39, 22), (40, 23), (41, 24), (42, 25), (43, 26)] [[], [0], [1, 0], [2, 1, 0], [3, 2, 1, 0], [2, 1, 0], [4, 3, 2, 1, 0, 5], [2, 1, 0, 6, 4, 3, 5], [7, 2, 1, 0, 6, 4, 3, 5], [8, 7, 2, 1, 0, 6, 4, 3, 5], [9, 8, 7, 2, 1, 0, 6, 4, 3, 5], [10, 9, 8, 7, 2, 1, 0, 6, 4, 3, 5], [11, 10, 9, 8, 7, 2, 1, 0, 6, 4, 3, 5], [12, 11, 10, 9, 8, 7, 2, 1, 0, 6, 4, 3, 5], [13, 12, 11, 10, 9, 8, 7, 2, 1, 0, 6, 4, 3, 5], [14, 13, 12, 11, 10, 9, 8, 7, 2, 1, 0, 6, 4, 3, 5], [11, 10, 9, 8, 7, 2, 1, 0, 6, 4, 3, 5, 15, 14, 13, 12], [8, 7, 2, 1, 0, 6, 4, 3, 5, 16, 11, 10, 9, 15, 14, 13, 12], [17, 8, 7, 2, 1, 0, 6, 4, 3, 5, 16, 11, 10, 9, 15, 14, 13, 12], [18, 17, 8, 7, 2, 1, 0, 6, 4, 3, 5, 16, 11, 10, 9, 15, 14, 13, 12], [19, 18, 17, 8, 7, 2, 1, 0, 6, 4, 3, 5, 16, 11, 10, 9, 15, 14, 13, 12], [18, 17, 8, 7, 2, 1, 0, 6, 4, 3, 5, 16, 11, 10, 9, 15, 14, 13, 12], [21, 18, 17, 8, 7, 2, 1, 0, 6, 4, 3, 5, 16, 11, 10, 9, 15, 14, 13, 12], [22, 21, 18, 17, 8, 7, 2, 1, 0, 6, 4, 3, 5, 16, 11, 10, 9, 15, 14, 13, 12], [20, 19, 18, 17, 8, 7, 2, 1, 0, 6, 4, 3, 5, 16, 11, 10, 9, 15, 14, 13, 12, 23, 22, 21], [24, 20, 19, 18, 17, 8, 7, 2, 1, 0, 6, 4, 3, 5, 16, 11, 10, 9, 15, 14, 13, 12, 23, 22, 21], [18, 17, 8, 7, 2, 1, 0, 6, 4, 3, 5, 16, 11, 10, 9, 15, 14, 13, 12, 25, 24, 20, 19, 23, 22, 21]] mixed (by kernel_rfl) (by kernel_rfl) ?_
  refine QL.p T ?_
  refine QL.p T ?_
  refine QL.p T ?_
  refine QL.join (fr1 := ?_) 4 19 false [20, 21, 22, 23] (fun hs0 hj => ?_) ?_ ?_
  rotate_left
  ·have hs0j := hs0
   try simp only [decide_eq_true_eq, Bool.not_eq_true', decide_eq_false_iff_not, Bool.not_eq_false', Int.not_lt, Int.not_le, Int.toNat_natCast, Bool.and_eq_true, Bool.or_eq_true, Bool.and_eq_false_iff, Bool.or_eq_false_iff] at hs0
   refine QL.p T ?_
   refine QL.lv1 T ?_
   refine QL.p T ?_
   refine QL.p T ?_
   exact hj
  ·repeat first | with_reducible exact Mx.refl | with_reducible exact Mx.mix | refine Mx.put rfl ?_ | refine Mx.upd rfl ?_ | refine Mx.updl rfl ?_ | refine Mx.fin rfl ?_ | refine Mx.inner rfl ?_ | refine Mx.none ?_ | exact Mx.refl | exact Mx.mix
  refine QL.or ?_
  refine QL.p T ?_
  refine QL.join (fr1 := ?_) 8 25 false [26, 27, 28, 29, 30, 31, 32, 33] (fun hs1 hj => ?_) ?_ ?_
  rotate_left
  ·have hs1j := hs1
   try simp only [decide_eq_true_eq, Bool.not_eq_true', decide_eq_false_iff_not, Bool.not_eq_false', Int.not_lt, Int.not_le, Int.toNat_natCast, Bool.and_eq_true, Bool.or_eq_true, Bool.and_eq_false_iff, Bool.or_eq_false_iff] at hs1
   refine QL.p T ?_
   refine QL.lv1 T ?_
   refine QL.p T ?_
   refine QL.join (fr1 := ?_) 4 28 true [29, 30, 31, 32] (fun hs2 hj => ?_) ?_ ?_
   rotate_left
   ·have hs2j := hs2
    try simp only [decide_eq_true_eq, Bool.not_eq_true', decide_eq_false_iff_not, Bool.not_eq_false', Int.not_lt, Int.not_le, Int.toNat_natCast, Bool.and_eq_true, Bool.or_eq_true, Bool.and_eq_false_iff, Bool.or_eq_false_iff] at hs2
    refine QL.p T ?_
    refine QL.lv1 T ?_
    refine QL.p T ?_
    refine QL.p T ?_
    exact hj
   ·repeat first | with_reducible exact Mx.refl | with_reducible exact Mx.mix | refine Mx.put rfl ?_ | refine Mx.upd rfl ?_ | refine Mx.updl rfl ?_ | refine Mx.fin rfl ?_ | refine Mx.inner rfl ?_ | refine Mx.none ?_ | exact Mx.refl | exact Mx.mix
   refine QL.and ?_
   exact hj
  ·repeat first | with_reducible exact Mx.refl | with_reducible exact Mx.mix | refine Mx.put rfl ?_ | refine Mx.upd rfl ?_ | refine Mx.updl rfl ?_ | refine Mx.fin rfl ?_ | refine Mx.inner rfl ?_ | refine Mx.none ?_ | exact Mx.refl | exact Mx.mix
  refine QL.or ?_
  refine QL.p T ?_
  refine QL.join (fr1 := ?_) 7 35 false [36, 37, 38, 39, 40, 41, 42] (fun hs3 hj => ?_) ?_ ?_
  rotate_left
  ·have hs3j := hs3
   try simp only [decide_eq_true_eq, Bool.not_eq_true', decide_eq_false_iff_not, Bool.not_eq_false', Int.not_lt, Int.not_le, Int.toNat_natCast, Bool.and_eq_true, Bool.or_eq_true, Bool.and_eq_false_iff, Bool.or_eq_false_iff] at hs3
   refine QL.q (QV.vN T rfl rfl rfl rfl rfl (by exact (rfl : _ = [_, _, _, _, _, _, _, _, _, _, _]))) ?_
   refine QL.c fun34 (fun hs => fbare f sa n c hR.cons hn hm hf) ?_
   refine QL.p T ?_
   refine QL.lv1 T ?_
   refine QL.step (by first | exact Gd.none rfl | exact Gd.yes rfl rfl | exact Gd.yes rfl (congrArg Value.bool (by assumption))) rfl (by first | exact QV.buildc T rfl (rfl : _ = some [_, _, _, _, _, _, _, _, _, _, _]) | exact pev_sound T (rfl : _ = some (Value.agg #[_, _, _, _, _, _, _, _, _, _, _]))) ?_
   refine QL.c fun29 (fun hs => fsame (bareF f) none 0 0 (by rw [bareF_data]; exact Rd.nilS) (by rw [bareF_data]; rfl) (by omega) (bareF_ok hf) (zeroF f.kind) none 0 0 Rd.nilS rfl (by omega) (zeroF_ok hf)) ?_
   refine QL.p T ?_
   exact hj
  ·repeat first | with_reducible exact Mx.refl | with_reducible exact Mx.mix | refine Mx.put rfl ?_ | refine Mx.upd rfl ?_ | refine Mx.updl rfl ?_ | refine Mx.fin rfl ?_ | refine Mx.inner rfl ?_ | refine Mx.none ?_ | exact Mx.refl | exact Mx.mix
  refine QL.or ?_
  refine QL.nil ?_
  refine hK6 _ _ _ ?_
  refine SW.cs (fun hc1 => ?_) (fun hc1 => ?_)
  ·skip
   refine SW.seq_k fun K7 hK7 => ?_
   refine SW.region _ _ _ _ ?_
   refine RL.p T ?_
   refine RL.nil _ _ _ _ ?_
   refine hK7 _ _ _ ?_
   refine SW.ret ?_
   refine retQ.rr (H) ?_
   clear hK7 K7 hK6 K6 hK5 K5 hK4 K4 hK3 K3 hK2 K2 hK1 K1 hK0 K0
   subst hn
   refine ⟨intE ?_, rfl⟩
   first
     | exact (chkF_bad (by rw [hc0]; exact hc1)).symm
     | exact (chkF_bad (by rw [hc0]; exact hc2)).symm
     | exact (chkF_good (by rw [hc0]; exact hc1)).symm
     | exact (chkF_good (by rw [hc0]; exact hc2)).symm
  ·skip
   refine SW.skip ?_
   refine hK5 _ _ _ ?_
   refine SW.seq_k fun K8 hK8 => ?_
   refine SW.region _ _ _ _ ?_
   refine RL.p T ?_
   refine RL.nil _ _ _ _ ?_
   refine hK8 _ _ _ ?_
   refine SW.ret ?_
   refine retQ.rr (H) ?_
   clear hK8 K8 hK6 K6 hK5 K5 hK4 K4 hK3 K3 hK2 K2 hK1 K1 hK0 K0
   subst hn
   refine ⟨intE ?_, rfl⟩
   first
     | exact (chkF_bad (by rw [hc0]; exact hc1)).symm
     | exact (chkF_bad (by rw [hc0]; exact hc2)).symm
     | exact (chkF_good (by rw [hc0]; exact hc1)).symm
     | exact (chkF_good (by rw [hc0]; exact hc2)).symm
 ·skip
  refine SW.skip ?_
  refine hK2 _ _ _ ?_
  refine SW.seq_k fun K9 hK9 => ?_
  refine SW.region _ _ _ _ ?_
  refine RL.p T ?_
  refine RL.lv1 T ?_
  refine RL.p T ?_
  refine RL.lv1 T ?_
  refine RL.p T ?_
  refine RL.c fun33 (fun hs => pCode f.kind n (by omega) (by omega)) ?_
  rintro _ _ ⟨rfl, e⟩; obtain rfl := e.symm
  refine RL.p T ?_
  refine RL.p T ?_
  refine RL.p T ?_
  refine RL.p T ?_
  refine RL.p T ?_
  refine RL.nil _ _ _ _ ?_
  refine hK9 _ _ _ ?_
  refine SW.seq_k fun K10 hK10 => ?_
  refine SW.seq_k fun K11 hK11 => ?_
  refine SW.drawQ [(17, 0), (18, 1), (19, 2), (20, 3), (21, 4), (22, 5), (23, 6), (24, 7), (25, 8), (26, 9), (27, 10), (28, 11), (29, 12), (30, 13), (31, 14), (32, 15), (33, 16), (34, 17), (35, 18), (36, 19), (37, 20), (38, 21), (39, 22), (40, 23), (41, 24), (42, 25), (43, 26)] [[], [0], [1, 0], [2, 1, 0], [3, 2, 1, 0], [2, 1, 0], [4, 3, 2, 1, 0, 5], [2, 1, 0, 6, 4, 3, 5], [7, 2, 1, 0, 6, 4, 3, 5], [8, 7, 2, 1, 0, 6, 4, 3, 5], [9, 8, 7, 2, 1, 0, 6, 4, 3, 5], [10, 9, 8, 7, 2, 1, 0, 6, 4, 3, 5], [11, 10, 9, 8, 7, 2, 1, 0, 6, 4, 3, 5], [12, 11, 10, 9, 8, 7, 2, 1, 0, 6, 4, 3, 5], [13, 12, 11, 10, 9, 8, 7, 2, 1, 0, 6, 4, 3, 5], [14, 13, 12, 11, 10, 9, 8, 7, 2, 1, 0, 6, 4, 3, 5], [11, 10, 9, 8, 7, 2, 1, 0, 6, 4, 3, 5, 15, 14, 13, 12], [8, 7, 2, 1, 0, 6, 4, 3, 5, 16, 11, 10, 9, 15, 14, 13, 12], [17, 8, 7, 2, 1, 0, 6, 4, 3, 5, 16, 11, 10, 9, 15, 14, 13, 12], [18, 17, 8, 7, 2, 1, 0, 6, 4, 3, 5, 16, 11, 10, 9, 15, 14, 13, 12], [19, 18, 17, 8, 7, 2, 1, 0, 6, 4, 3, 5, 16, 11, 10, 9, 15, 14, 13, 12], [18, 17, 8, 7, 2, 1, 0, 6, 4, 3, 5, 16, 11, 10, 9, 15, 14, 13, 12], [21, 18, 17, 8, 7, 2, 1, 0, 6, 4, 3, 5, 16, 11, 10, 9, 15, 14, 13, 12], [22, 21, 18, 17, 8, 7, 2, 1, 0, 6, 4, 3, 5, 16, 11, 10, 9, 15, 14, 13, 12], [20, 19, 18, 17, 8, 7, 2, 1, 0, 6, 4, 3, 5, 16, 11, 10, 9, 15, 14, 13, 12, 23, 22, 21], [24, 20, 19, 18, 17, 8, 7, 2, 1, 0, 6, 4, 3, 5, 16, 11, 10, 9, 15, 14, 13, 12, 23, 22, 21], [18, 17, 8, 7, 2, 1, 0, 6, 4, 3, 5, 16, 11, 10, 9, 15, 14, 13, 12, 25, 24, 20, 19, 23, 22, 21]] mixed (by kernel_rfl) (by kernel_rfl) ?_
  refine QL.p T ?_
  refine QL.p T ?_
  refine QL.p T ?_
  refine QL.join (fr1 := ?_) 4 19 false [20, 21, 22, 23] (fun hs4 hj => ?_) ?_ ?_
  rotate_left
  ·have hs4j := hs4
   try simp only [decide_eq_true_eq, Bool.not_eq_true', decide_eq_false_iff_not, Bool.not_eq_false', Int.not_lt, Int.not_le, Int.toNat_natCast, Bool.and_eq_true, Bool.or_eq_true, Bool.and_eq_false_iff, Bool.or_eq_false_iff] at hs4
   refine QL.p T ?_
   refine QL.lv1 T ?_
   refine QL.p T ?_
   refine QL.p T ?_
   exact hj
  ·repeat first | with_reducible exact Mx.refl | with_reducible exact Mx.mix | refine Mx.put rfl ?_ | refine Mx.upd rfl ?_ | refine Mx.updl rfl ?_ | refine Mx.fin rfl ?_ | refine Mx.inner rfl ?_ | refine Mx.none ?_ | exact Mx.refl | exact Mx.mix
  refine QL.or ?_
  refine QL.p T ?_
  refine QL.join (fr1 := ?_) 8 25 false [26, 27, 28, 29, 30, 31, 32, 33] (fun hs5 hj => ?_) ?_ ?_
  rotate_left
  ·have hs5j := hs5
   try simp only [decide_eq_true_eq, Bool.not_eq_true', decide_eq_false_iff_not, Bool.not_eq_false', Int.not_lt, Int.not_le, Int.toNat_natCast, Bool.and_eq_true, Bool.or_eq_true, Bool.and_eq_false_iff, Bool.or_eq_false_iff] at hs5
   refine QL.p T ?_
   refine QL.lv1 T ?_
   refine QL.p T ?_
   refine QL.join (fr1 := ?_) 4 28 true [29, 30, 31, 32] (fun hs6 hj => ?_) ?_ ?_
   rotate_left
   ·have hs6j := hs6
    try simp only [decide_eq_true_eq, Bool.not_eq_true', decide_eq_false_iff_not, Bool.not_eq_false', Int.not_lt, Int.not_le, Int.toNat_natCast, Bool.and_eq_true, Bool.or_eq_true, Bool.and_eq_false_iff, Bool.or_eq_false_iff] at hs6
    refine QL.p T ?_
    refine QL.lv1 T ?_
    refine QL.p T ?_
    refine QL.p T ?_
    exact hj
   ·repeat first | with_reducible exact Mx.refl | with_reducible exact Mx.mix | refine Mx.put rfl ?_ | refine Mx.upd rfl ?_ | refine Mx.updl rfl ?_ | refine Mx.fin rfl ?_ | refine Mx.inner rfl ?_ | refine Mx.none ?_ | exact Mx.refl | exact Mx.mix
   refine QL.and ?_
   exact hj
  ·repeat first | with_reducible exact Mx.refl | with_reducible exact Mx.mix | refine Mx.put rfl ?_ | refine Mx.upd rfl ?_ | refine Mx.updl rfl ?_ | refine Mx.fin rfl ?_ | refine Mx.inner rfl ?_ | refine Mx.none ?_ | exact Mx.refl | exact Mx.mix
  refine QL.or ?_
  refine QL.p T ?_
  refine QL.join (fr1 := ?_) 7 35 false [36, 37, 38, 39, 40, 41, 42] (fun hs7 hj => ?_) ?_ ?_
  rotate_left
  ·have hs7j := hs7
   try simp only [decide_eq_true_eq, Bool.not_eq_true', decide_eq_false_iff_not, Bool.not_eq_false', Int.not_lt, Int.not_le, Int.toNat_natCast, Bool.and_eq_true, Bool.or_eq_true, Bool.and_eq_false_iff, Bool.or_eq_false_iff] at hs7
   refine QL.q (QV.vN T rfl rfl rfl rfl rfl (by exact (rfl : _ = [_, _, _, _, _, _, _, _, _, _, _]))) ?_
   refine QL.c fun34 (fun hs => fbare f sa n c hR.cons hn hm hf) ?_
   refine QL.p T ?_
   refine QL.lv1 T ?_
   refine QL.step (by first | exact Gd.none rfl | exact Gd.yes rfl rfl | exact Gd.yes rfl (congrArg Value.bool (by assumption))) rfl (by first | exact QV.buildc T rfl (rfl : _ = some [_, _, _, _, _, _, _, _, _, _, _]) | exact pev_sound T (rfl : _ = some (Value.agg #[_, _, _, _, _, _, _, _, _, _, _]))) ?_
   refine QL.c fun29 (fun hs => fsame (bareF f) none 0 0 (by rw [bareF_data]; exact Rd.nilS) (by rw [bareF_data]; rfl) (by omega) (bareF_ok hf) (zeroF f.kind) none 0 0 Rd.nilS rfl (by omega) (zeroF_ok hf)) ?_
   refine QL.p T ?_
   exact hj
  ·repeat first | with_reducible exact Mx.refl | with_reducible exact Mx.mix | refine Mx.put rfl ?_ | refine Mx.upd rfl ?_ | refine Mx.updl rfl ?_ | refine Mx.fin rfl ?_ | refine Mx.inner rfl ?_ | refine Mx.none ?_ | exact Mx.refl | exact Mx.mix
  refine QL.or ?_
  refine QL.nil ?_
  refine hK11 _ _ _ ?_
  refine SW.cs (fun hc2 => ?_) (fun hc2 => ?_)
  ·skip
   refine SW.seq_k fun K12 hK12 => ?_
   refine SW.region _ _ _ _ ?_
   refine RL.p T ?_
   refine RL.nil _ _ _ _ ?_
   refine hK12 _ _ _ ?_
   refine SW.ret ?_
   refine retQ.rr (H) ?_
   clear hK12 K12 hK11 K11 hK10 K10 hK9 K9 hK3 K3 hK2 K2 hK1 K1 hK0 K0
   subst hn
   refine ⟨intE ?_, rfl⟩
   first
     | exact (chkF_bad (by rw [hc0]; exact hc1)).symm
     | exact (chkF_bad (by rw [hc0]; exact hc2)).symm
     | exact (chkF_good (by rw [hc0]; exact hc1)).symm
     | exact (chkF_good (by rw [hc0]; exact hc2)).symm
  ·skip
   refine SW.skip ?_
   refine hK10 _ _ _ ?_
   refine SW.seq_k fun K13 hK13 => ?_
   refine SW.region _ _ _ _ ?_
   refine RL.p T ?_
   refine RL.nil _ _ _ _ ?_
   refine hK13 _ _ _ ?_
   refine SW.ret ?_
   refine retQ.rr (H) ?_
   clear hK13 K13 hK11 K11 hK10 K10 hK9 K9 hK3 K3 hK2 K2 hK1 K1 hK0 K0
   subst hn
   refine ⟨intE ?_, rfl⟩
   first
     | exact (chkF_bad (by rw [hc0]; exact hc1)).symm
     | exact (chkF_bad (by rw [hc0]; exact hc2)).symm
     | exact (chkF_good (by rw [hc0]; exact hc1)).symm
     | exact (chkF_good (by rw [hc0]; exact hc2)).symm
theorem rfsame {w0 : World} {H : List Chunk} (f : Frm) (sa : Option Addr) (n c : Nat) (hR : Rd w0 H sa n c 1 (f.data.map (.int .u8))) (hn : n = f.data.length) (hm : n ≤ 140737488351232) (hf : FrOk f) (g : Frm) (sb : Option Addr) (m d : Nat) (hS : Rd w0 H sb m d 1 (g.data.map (.int .u8))) (hn2 : m = g.data.length) (hm2 : m ≤ 140737488351232) (hg : FrOk g) : SC Try.prog w0 36 #[FA f sa n c, FA g sb m d] H (fun v H' => v = .bool (sameF f g) ∧ H' = H) := by
 refine SC.enter Try.func36 rfl (Nat.le_of_ble_eq_true rfl) ?_
 refine SW.seq_k fun K0 hK0 => ?_
 refine SW.region _ _ _ _ ?_
 refine RL.s ?_
 refine NV.box rfl (by exact (rfl : _ = [_, _, _, _, _, _, _, _, _, _, _])) ?_
 intro b2_0
 refine RL.s ?_
 refine NV.box rfl (by exact (rfl : _ = [_, _, _, _, _, _, _, _, _, _, _])) ?_
 intro b3_1
 refine RL.p T ?_
 refine RL.nil _ _ _ _ ?_
 refine hK0 _ _ _ ?_
 refine SW.seq_k fun K1 hK1 => ?_
 refine SW.region _ _ _ _ ?_
 refine RL.p T ?_
 refine RL.lv1 T ?_
 refine RL.p T ?_
 refine RL.lv1 T ?_
 refine RL.p T ?_
 refine RL.p T ?_
 refine RL.join (fr1 := ?_) 5 10 true [11, 12, 13, 14, 15] (fun hs0 hj => ?_) ?_ ?_
 rotate_left
 ·have hs0j := hs0
  try simp only [decide_eq_true_eq, Bool.not_eq_true', decide_eq_false_iff_not, Bool.not_eq_false', Int.not_lt, Int.not_le, Int.toNat_natCast, Bool.and_eq_true, Bool.or_eq_true, Bool.and_eq_false_iff, Bool.or_eq_false_iff] at hs0
  refine RL.p T ?_
  refine RL.lv1 T ?_
  refine RL.p T ?_
  refine RL.lv1 T ?_
  refine RL.p T ?_
  exact hj
 ·repeat first | with_reducible exact Mx.refl | with_reducible exact Mx.mix | refine Mx.put rfl ?_ | refine Mx.upd rfl ?_ | refine Mx.updl rfl ?_ | refine Mx.fin rfl ?_ | refine Mx.inner rfl ?_ | refine Mx.none ?_ | exact Mx.refl | exact Mx.mix
 refine RL.and ?_
 refine RL.p T ?_
 refine RL.join (fr1 := ?_) 5 17 true [18, 19, 20, 21, 22] (fun hs1 hj => ?_) ?_ ?_
 rotate_left
 ·have hs1j := hs1
  try simp only [decide_eq_true_eq, Bool.not_eq_true', decide_eq_false_iff_not, Bool.not_eq_false', Int.not_lt, Int.not_le, Int.toNat_natCast, Bool.and_eq_true, Bool.or_eq_true, Bool.and_eq_false_iff, Bool.or_eq_false_iff] at hs1
  refine RL.p T ?_
  refine RL.lv1 T ?_
  refine RL.p T ?_
  refine RL.lv1 T ?_
  refine RL.p T ?_
  exact hj
 ·repeat first | with_reducible exact Mx.refl | with_reducible exact Mx.mix | refine Mx.put rfl ?_ | refine Mx.upd rfl ?_ | refine Mx.updl rfl ?_ | refine Mx.fin rfl ?_ | refine Mx.inner rfl ?_ | refine Mx.none ?_ | exact Mx.refl | exact Mx.mix
 refine RL.and ?_
 refine RL.p T ?_
 refine RL.join (fr1 := ?_) 5 24 true [25, 26, 27, 28, 29] (fun hs2 hj => ?_) ?_ ?_
 rotate_left
 ·have hs2j := hs2
  try simp only [decide_eq_true_eq, Bool.not_eq_true', decide_eq_false_iff_not, Bool.not_eq_false', Int.not_lt, Int.not_le, Int.toNat_natCast, Bool.and_eq_true, Bool.or_eq_true, Bool.and_eq_false_iff, Bool.or_eq_false_iff] at hs2
  refine RL.p T ?_
  refine RL.lv1 T ?_
  refine RL.p T ?_
  refine RL.lv1 T ?_
  refine RL.p T ?_
  exact hj
 ·repeat first | with_reducible exact Mx.refl | with_reducible exact Mx.mix | refine Mx.put rfl ?_ | refine Mx.upd rfl ?_ | refine Mx.updl rfl ?_ | refine Mx.fin rfl ?_ | refine Mx.inner rfl ?_ | refine Mx.none ?_ | exact Mx.refl | exact Mx.mix
 refine RL.and ?_
 refine RL.p T ?_
 refine RL.join (fr1 := ?_) 5 31 true [32, 33, 34, 35, 36] (fun hs3 hj => ?_) ?_ ?_
 rotate_left
 ·have hs3j := hs3
  try simp only [decide_eq_true_eq, Bool.not_eq_true', decide_eq_false_iff_not, Bool.not_eq_false', Int.not_lt, Int.not_le, Int.toNat_natCast, Bool.and_eq_true, Bool.or_eq_true, Bool.and_eq_false_iff, Bool.or_eq_false_iff] at hs3
  refine RL.p T ?_
  refine RL.lv1 T ?_
  refine RL.p T ?_
  refine RL.lv1 T ?_
  refine RL.p T ?_
  exact hj
 ·repeat first | with_reducible exact Mx.refl | with_reducible exact Mx.mix | refine Mx.put rfl ?_ | refine Mx.upd rfl ?_ | refine Mx.updl rfl ?_ | refine Mx.fin rfl ?_ | refine Mx.inner rfl ?_ | refine Mx.none ?_ | exact Mx.refl | exact Mx.mix
 refine RL.and ?_
 refine RL.p T ?_
 refine RL.join (fr1 := ?_) 5 38 true [39, 40, 41, 42, 43] (fun hs4 hj => ?_) ?_ ?_
 rotate_left
 ·have hs4j := hs4
  try simp only [decide_eq_true_eq, Bool.not_eq_true', decide_eq_false_iff_not, Bool.not_eq_false', Int.not_lt, Int.not_le, Int.toNat_natCast, Bool.and_eq_true, Bool.or_eq_true, Bool.and_eq_false_iff, Bool.or_eq_false_iff] at hs4
  refine RL.p T ?_
  refine RL.lv1 T ?_
  refine RL.p T ?_
  refine RL.lv1 T ?_
  refine RL.p T ?_
  exact hj
 ·repeat first | with_reducible exact Mx.refl | with_reducible exact Mx.mix | refine Mx.put rfl ?_ | refine Mx.upd rfl ?_ | refine Mx.updl rfl ?_ | refine Mx.fin rfl ?_ | refine Mx.inner rfl ?_ | refine Mx.none ?_ | exact Mx.refl | exact Mx.mix
 refine RL.and ?_
 refine RL.p T ?_
 refine RL.join (fr1 := ?_) 5 45 true [46, 47, 48, 49, 50] (fun hs5 hj => ?_) ?_ ?_
 rotate_left
 ·have hs5j := hs5
  try simp only [decide_eq_true_eq, Bool.not_eq_true', decide_eq_false_iff_not, Bool.not_eq_false', Int.not_lt, Int.not_le, Int.toNat_natCast, Bool.and_eq_true, Bool.or_eq_true, Bool.and_eq_false_iff, Bool.or_eq_false_iff] at hs5
  refine RL.p T ?_
  refine RL.lv1 T ?_
  refine RL.p T ?_
  refine RL.lv1 T ?_
  refine RL.p T ?_
  exact hj
 ·repeat first | with_reducible exact Mx.refl | with_reducible exact Mx.mix | refine Mx.put rfl ?_ | refine Mx.upd rfl ?_ | refine Mx.updl rfl ?_ | refine Mx.fin rfl ?_ | refine Mx.inner rfl ?_ | refine Mx.none ?_ | exact Mx.refl | exact Mx.mix
 refine RL.and ?_
 refine RL.p T ?_
 refine RL.join (fr1 := ?_) 5 52 true [53, 54, 55, 56, 57] (fun hs6 hj => ?_) ?_ ?_
 rotate_left
 ·have hs6j := hs6
  try simp only [decide_eq_true_eq, Bool.not_eq_true', decide_eq_false_iff_not, Bool.not_eq_false', Int.not_lt, Int.not_le, Int.toNat_natCast, Bool.and_eq_true, Bool.or_eq_true, Bool.and_eq_false_iff, Bool.or_eq_false_iff] at hs6
  refine RL.p T ?_
  refine RL.lv1 T ?_
  refine RL.p T ?_
  refine RL.lv1 T ?_
  refine RL.p T ?_
  exact hj
 ·repeat first | with_reducible exact Mx.refl | with_reducible exact Mx.mix | refine Mx.put rfl ?_ | refine Mx.upd rfl ?_ | refine Mx.updl rfl ?_ | refine Mx.fin rfl ?_ | refine Mx.inner rfl ?_ | refine Mx.none ?_ | exact Mx.refl | exact Mx.mix
 refine RL.and ?_
 refine RL.p T ?_
 refine RL.join (fr1 := ?_) 5 59 true [60, 61, 62, 63, 64] (fun hs7 hj => ?_) ?_ ?_
 rotate_left
 ·have hs7j := hs7
  try simp only [decide_eq_true_eq, Bool.not_eq_true', decide_eq_false_iff_not, Bool.not_eq_false', Int.not_lt, Int.not_le, Int.toNat_natCast, Bool.and_eq_true, Bool.or_eq_true, Bool.and_eq_false_iff, Bool.or_eq_false_iff] at hs7
  refine RL.p T ?_
  refine RL.lv1 T ?_
  refine RL.p T ?_
  refine RL.lv1 T ?_
  refine RL.p T ?_
  exact hj
 ·repeat first | with_reducible exact Mx.refl | with_reducible exact Mx.mix | refine Mx.put rfl ?_ | refine Mx.upd rfl ?_ | refine Mx.updl rfl ?_ | refine Mx.fin rfl ?_ | refine Mx.inner rfl ?_ | refine Mx.none ?_ | exact Mx.refl | exact Mx.mix
 refine RL.and ?_
 refine RL.p T ?_
 refine RL.join (fr1 := ?_) 5 66 true [67, 68, 69, 70, 71] (fun hs8 hj => ?_) ?_ ?_
 rotate_left
 ·have hs8j := hs8
  try simp only [decide_eq_true_eq, Bool.not_eq_true', decide_eq_false_iff_not, Bool.not_eq_false', Int.not_lt, Int.not_le, Int.toNat_natCast, Bool.and_eq_true, Bool.or_eq_true, Bool.and_eq_false_iff, Bool.or_eq_false_iff] at hs8
  refine RL.p T ?_
  refine RL.lv1 T ?_
  refine RL.p T ?_
  refine RL.lv1 T ?_
  refine RL.p T ?_
  exact hj
 ·repeat first | with_reducible exact Mx.refl | with_reducible exact Mx.mix | refine Mx.put rfl ?_ | refine Mx.upd rfl ?_ | refine Mx.updl rfl ?_ | refine Mx.fin rfl ?_ | refine Mx.inner rfl ?_ | refine Mx.none ?_ | exact Mx.refl | exact Mx.mix
 refine RL.and ?_
 refine RL.p T ?_
 refine RL.join (fr1 := ?_) 5 73 true [74, 75, 76, 77, 78] (fun hs9 hj => ?_) ?_ ?_
 rotate_left
 ·have hs9j := hs9
  try simp only [decide_eq_true_eq, Bool.not_eq_true', decide_eq_false_iff_not, Bool.not_eq_false', Int.not_lt, Int.not_le, Int.toNat_natCast, Bool.and_eq_true, Bool.or_eq_true, Bool.and_eq_false_iff, Bool.or_eq_false_iff] at hs9
  refine RL.p T ?_
  refine RL.lv1 T ?_
  refine RL.p T ?_
  refine RL.lv1 T ?_
  refine RL.c fun54 (fun hs => same sa sb n c m d f.data g.data hR.cons.cons hS.cons.cons hn hn2 hm hm2) ?_
  rintro _ _ ⟨rfl, e⟩; obtain rfl := e.symm
  exact hj
 ·repeat first | with_reducible exact Mx.refl | with_reducible exact Mx.mix | refine Mx.put rfl ?_ | refine Mx.upd rfl ?_ | refine Mx.updl rfl ?_ | refine Mx.fin rfl ?_ | refine Mx.inner rfl ?_ | refine Mx.none ?_ | exact Mx.refl | exact Mx.mix
 refine RL.and ?_
 refine RL.p T ?_
 refine RL.nil _ _ _ _ ?_
 refine hK1 _ _ _ ?_
 refine SW.ret ?_
 refine retQ.rr (H) ?_
 clear hK1 K1 hK0 K0
 refine ⟨boolE ?_, rfl⟩
 unfold sameF
 simp only [Bool.and_assoc]
theorem rfcheck {w0 : World} {H : List Chunk} (f : Frm) (sa : Option Addr) (n c : Nat) (hR : Rd w0 H sa n c 1 (f.data.map (.int .u8))) (hn : n = f.data.length) (hm : n ≤ 140737488351232) (hf : FrOk f) : SC Try.prog w0 41 #[FA f sa n c] H (fun v H' => v = .int .i64 (chkF f) ∧ H' = H) := by
 refine SC.enter Try.func41 rfl (Nat.le_of_ble_eq_true rfl) ?_
 refine SW.seq_k fun K0 hK0 => ?_
 refine SW.region _ _ _ _ ?_
 refine RL.s ?_
 refine NV.box rfl (by exact (rfl : _ = [_, _, _, _, _, _, _, _, _, _, _])) ?_
 intro b1_0
 refine RL.p T ?_
 refine RL.nil _ _ _ _ ?_
 refine hK0 _ _ _ ?_
 refine SW.seq_k fun K1 hK1 => ?_
 refine SW.region _ _ _ _ ?_
 refine RL.q (QV.vN T rfl rfl rfl rfl rfl (by exact (rfl : _ = [_, _, _, _, _, _, _, _, _, _, _]))) ?_
 refine RL.s ?_
 refine NV.alloc T rfl rfl rfl (by exact (rfl : _ = [_, _, _, _, _, _, _, _, _, _, _])) ?_
 intro b3_1
 refine RL.s ?_
 refine NV.sN T rfl rfl rfl (by exact (rfl : _ = [_, _, _, _, _, _, _, _, _, _, _])) (by exact (rfl : _ = [_, _, _, _, _, _, _, _, _, _, _])) ?_
 refine RL.nil _ _ _ _ ?_
 refine hK1 _ _ _ ?_
 refine SW.seq_k fun K2 hK2 => ?_
 refine SW.region _ _ _ _ ?_
 refine RL.p T ?_
 refine RL.sv1 T ?_
 refine RL.nil _ _ _ _ ?_
 refine hK2 _ _ _ ?_
 refine SW.seq_k fun K3 hK3 => ?_
 refine SW.seq_k fun K4 hK4 => ?_
 refine SW.region _ _ _ _ ?_
 refine RL.p T ?_
 refine RL.lv1 T ?_
 refine RL.p T ?_
 refine RL.lv1 T ?_
 refine RL.p T ?_
 refine RL.c fun55 (fun hs => rcode f.kind n (by omega) (by omega)) ?_
 rintro _ _ ⟨rfl, e⟩; obtain rfl := e.symm
 refine RL.p T ?_
 refine RL.p T ?_
 refine RL.p T ?_
 refine RL.p T ?_
 refine RL.p T ?_
 refine RL.nil _ _ _ _ ?_
 refine hK4 _ _ _ ?_
 refine SW.seq_k fun K5 hK5 => ?_
 refine SW.region _ _ _ _ ?_
 refine RL.p T ?_
 refine RL.p T ?_
 refine RL.nil _ _ _ _ ?_
 refine hK5 _ _ _ ?_
 refine SW.cs (fun hc0 => ?_) (fun hc0 => ?_)
 ·skip
  refine SW.seq_k fun K6 hK6 => ?_
  refine SW.region _ _ _ _ ?_
  refine RL.p T ?_
  refine RL.nil _ _ _ _ ?_
  refine hK6 _ _ _ ?_
  refine SW.ret ?_
  try clear e
  refine retQ.rr (H) ?_
  clear hK6 K6 hK5 K5 hK4 K4 hK3 K3 hK2 K2 hK1 K1 hK0 K0
  subst hn
  refine ⟨intE ?_, rfl⟩
  first
    | exact (chkF_2 (f := f) (fun h => by have := code_kind h.1; unfold RestF at h; grind)).symm
    | exact (chkF_0 (f := f) (by unfold RestF; have := code_kind hc0; grind)).symm
 ·skip
  refine SW.skip ?_
  refine hK3 _ _ _ ?_
  refine SW.seq_k fun K7 hK7 => ?_
  refine SW.seq_k fun K8 hK8 => ?_
  refine SW.region _ _ _ _ ?_
  refine RL.p T ?_
  refine RL.lv1 T ?_
  refine RL.nil _ _ _ _ ?_
  refine hK8 _ _ _ ?_
  refine SW.block ?_
  refine SW.seq_k fun K9 hK9 => ?_
  refine SW.region _ _ _ _ ?_
  refine RL.p T ?_
  refine RL.p T ?_
  refine RL.nil _ _ _ _ ?_
  refine hK9 _ _ _ ?_
  refine SW.cs (fun hc1 => ?_) (fun hc1 => ?_)
  ·skip
   refine SW.seq_k fun K10 hK10 => ?_
   refine SW.seq_k fun K11 hK11 => ?_
   refine SW.region _ _ _ _ ?_
   refine RL.p T ?_
   refine RL.lv1 T ?_
   refine RL.p T ?_
   refine RL.join (fr1 := ?_) 4 25 true [26, 27, 28, 29] (fun hs0 hj => ?_) ?_ ?_
   rotate_left
   ·have hs0j := hs0
    try simp only [decide_eq_true_eq, Bool.not_eq_true', decide_eq_false_iff_not, Bool.not_eq_false', Int.not_lt, Int.not_le, Int.toNat_natCast, Bool.and_eq_true, Bool.or_eq_true, Bool.and_eq_false_iff, Bool.or_eq_false_iff] at hs0
    refine RL.p T ?_
    refine RL.lv1 T ?_
    refine RL.p T ?_
    refine RL.p T ?_
    exact hj
   ·repeat first | with_reducible exact Mx.refl | with_reducible exact Mx.mix | refine Mx.put rfl ?_ | refine Mx.upd rfl ?_ | refine Mx.updl rfl ?_ | refine Mx.fin rfl ?_ | refine Mx.inner rfl ?_ | refine Mx.none ?_ | exact Mx.refl | exact Mx.mix
   refine RL.and ?_
   refine RL.p T ?_
   refine RL.join (fr1 := ?_) 8 31 false [32, 33, 34, 35, 36, 37, 38, 39] (fun hs1 hj => ?_) ?_ ?_
   rotate_left
   ·have hs1j := hs1
    try simp only [decide_eq_true_eq, Bool.not_eq_true', decide_eq_false_iff_not, Bool.not_eq_false', Int.not_lt, Int.not_le, Int.toNat_natCast, Bool.and_eq_true, Bool.or_eq_true, Bool.and_eq_false_iff, Bool.or_eq_false_iff] at hs1
    refine RL.p T ?_
    refine RL.lv1 T ?_
    refine RL.p T ?_
    refine RL.p T ?_
    refine RL.join (fr1 := ?_) 3 35 true [36, 37, 38] (fun hs2 hj => ?_) ?_ ?_
    rotate_left
    ·have hs2j := hs2
     try simp only [decide_eq_true_eq, Bool.not_eq_true', decide_eq_false_iff_not, Bool.not_eq_false', Int.not_lt, Int.not_le, Int.toNat_natCast, Bool.and_eq_true, Bool.or_eq_true, Bool.and_eq_false_iff, Bool.or_eq_false_iff] at hs2
     refine RL.p T ?_
     refine RL.lv1 T ?_
     refine RL.p T ?_
     exact hj
    ·repeat first | with_reducible exact Mx.refl | with_reducible exact Mx.mix | refine Mx.put rfl ?_ | refine Mx.upd rfl ?_ | refine Mx.updl rfl ?_ | refine Mx.fin rfl ?_ | refine Mx.inner rfl ?_ | refine Mx.none ?_ | exact Mx.refl | exact Mx.mix
    refine RL.and ?_
    exact hj
   ·repeat first | with_reducible exact Mx.refl | with_reducible exact Mx.mix | refine Mx.put rfl ?_ | refine Mx.upd rfl ?_ | refine Mx.updl rfl ?_ | refine Mx.fin rfl ?_ | refine Mx.inner rfl ?_ | refine Mx.none ?_ | exact Mx.refl | exact Mx.mix
   refine RL.or ?_
   refine RL.p T ?_
   refine RL.join (fr1 := ?_) 3 41 false [42, 43, 44] (fun hs3 hj => ?_) ?_ ?_
   rotate_left
   ·have hs3j := hs3
    try simp only [decide_eq_true_eq, Bool.not_eq_true', decide_eq_false_iff_not, Bool.not_eq_false', Int.not_lt, Int.not_le, Int.toNat_natCast, Bool.and_eq_true, Bool.or_eq_true, Bool.and_eq_false_iff, Bool.or_eq_false_iff] at hs3
    refine RL.p T ?_
    refine RL.lv1 T ?_
    refine RL.p T ?_
    exact hj
   ·repeat first | with_reducible exact Mx.refl | with_reducible exact Mx.mix | refine Mx.put rfl ?_ | refine Mx.upd rfl ?_ | refine Mx.updl rfl ?_ | refine Mx.fin rfl ?_ | refine Mx.inner rfl ?_ | refine Mx.none ?_ | exact Mx.refl | exact Mx.mix
   refine RL.or ?_
   refine RL.nil _ _ _ _ ?_
   refine hK11 _ _ _ ?_
   refine SW.cs (fun hc2 => ?_) (fun hc2 => ?_)
   ·skip
    refine SW.seq_k fun K12 hK12 => ?_
    refine SW.region _ _ _ _ ?_
    refine RL.p T ?_
    refine RL.nil _ _ _ _ ?_
    refine hK12 _ _ _ ?_
    refine SW.ret ?_
    try clear e
    refine retQ.rr (H) ?_
    clear hK12 K12 hK11 K11 hK10 K10 hK9 K9 hK8 K8 hK7 K7 hK5 K5 hK4 K4 hK3 K3 hK2 K2 hK1 K1 hK0 K0
    subst hn
    refine ⟨intE ?_, rfl⟩
    first
      | exact (chkF_2 (f := f) (fun h => by have := code_kind h.1; unfold RestF at h; grind)).symm
      | exact (chkF_0 (f := f) (by unfold RestF; have := code_kind hc0; grind)).symm
   ·skip
    refine SW.skip ?_
    refine hK10 _ _ _ ?_
    refine SW.region _ _ _ _ ?_
    refine RL.p T ?_
    refine RL.sv1 T ?_
    refine RL.p T ?_
    refine RL.sv1 T ?_
    refine RL.nil _ _ _ _ ?_
    refine hK7 _ _ _ ?_
    refine SW.seq_k fun K13 hK13 => ?_
    refine SW.seq_k fun K14 hK14 => ?_
    refine SW.region _ _ _ _ ?_
    refine RL.p T ?_
    refine RL.lv1 T ?_
    refine RL.p T ?_
    refine RL.p T ?_
    refine RL.join (fr1 := ?_) 3 61 true [62, 63, 64] (fun hs4 hj => ?_) ?_ ?_
    rotate_left
    ·have hs4j := hs4
     try simp only [decide_eq_true_eq, Bool.not_eq_true', decide_eq_false_iff_not, Bool.not_eq_false', Int.not_lt, Int.not_le, Int.toNat_natCast, Bool.and_eq_true, Bool.or_eq_true, Bool.and_eq_false_iff, Bool.or_eq_false_iff] at hs4
     refine RL.p T ?_
     refine RL.lv1 T ?_
     refine RL.p T ?_
     exact hj
    ·repeat first | with_reducible exact Mx.refl | with_reducible exact Mx.mix | refine Mx.put rfl ?_ | refine Mx.upd rfl ?_ | refine Mx.updl rfl ?_ | refine Mx.fin rfl ?_ | refine Mx.inner rfl ?_ | refine Mx.none ?_ | exact Mx.refl | exact Mx.mix
    refine RL.and ?_
    refine RL.nil _ _ _ _ ?_
    refine hK14 _ _ _ ?_
    refine SW.cs (fun hc3 => ?_) (fun hc3 => ?_)
    ·skip
     refine SW.seq_k fun K15 hK15 => ?_
     refine SW.region _ _ _ _ ?_
     refine RL.p T ?_
     refine RL.nil _ _ _ _ ?_
     refine hK15 _ _ _ ?_
     refine SW.ret ?_
     try clear e
     refine retQ.rr (H) ?_
     clear hK15 K15 hK14 K14 hK13 K13 hK11 K11 hK10 K10 hK9 K9 hK8 K8 hK7 K7 hK5 K5 hK4 K4 hK3 K3 hK2 K2 hK1 K1 hK0 K0
     subst hn
     refine ⟨intE ?_, rfl⟩
     first
       | exact (chkF_2 (f := f) (fun h => by have := code_kind h.1; unfold RestF at h; grind)).symm
       | exact (chkF_0 (f := f) (by unfold RestF; have := code_kind hc0; grind)).symm
    ·skip
     refine SW.skip ?_
     refine hK13 _ _ _ ?_
     refine SW.seq_k fun K16 hK16 => ?_
     refine SW.seq_k fun K17 hK17 => ?_
     refine SW.region _ _ _ _ ?_
     refine RL.p T ?_
     refine RL.lv1 T ?_
     refine RL.p T ?_
     refine RL.join (fr1 := ?_) 2 68 false [69, 70] (fun hs5 hj => ?_) ?_ ?_
     rotate_left
     ·have hs5j := hs5
      try simp only [decide_eq_true_eq, Bool.not_eq_true', decide_eq_false_iff_not, Bool.not_eq_false', Int.not_lt, Int.not_le, Int.toNat_natCast, Bool.and_eq_true, Bool.or_eq_true, Bool.and_eq_false_iff, Bool.or_eq_false_iff] at hs5
      refine RL.p T ?_
      refine RL.lv1 T ?_
      exact hj
     ·repeat first | with_reducible exact Mx.refl | with_reducible exact Mx.mix | refine Mx.put rfl ?_ | refine Mx.upd rfl ?_ | refine Mx.updl rfl ?_ | refine Mx.fin rfl ?_ | refine Mx.inner rfl ?_ | refine Mx.none ?_ | exact Mx.refl | exact Mx.mix
     refine RL.or ?_
     refine RL.p T ?_
     refine RL.join (fr1 := ?_) 2 72 false [73, 74] (fun hs6 hj => ?_) ?_ ?_
     rotate_left
     ·have hs6j := hs6
      try simp only [decide_eq_true_eq, Bool.not_eq_true', decide_eq_false_iff_not, Bool.not_eq_false', Int.not_lt, Int.not_le, Int.toNat_natCast, Bool.and_eq_true, Bool.or_eq_true, Bool.and_eq_false_iff, Bool.or_eq_false_iff] at hs6
      refine RL.p T ?_
      refine RL.lv1 T ?_
      exact hj
     ·repeat first | with_reducible exact Mx.refl | with_reducible exact Mx.mix | refine Mx.put rfl ?_ | refine Mx.upd rfl ?_ | refine Mx.updl rfl ?_ | refine Mx.fin rfl ?_ | refine Mx.inner rfl ?_ | refine Mx.none ?_ | exact Mx.refl | exact Mx.mix
     refine RL.or ?_
     refine RL.p T ?_
     refine RL.join (fr1 := ?_) 2 76 false [77, 78] (fun hs7 hj => ?_) ?_ ?_
     rotate_left
     ·have hs7j := hs7
      try simp only [decide_eq_true_eq, Bool.not_eq_true', decide_eq_false_iff_not, Bool.not_eq_false', Int.not_lt, Int.not_le, Int.toNat_natCast, Bool.and_eq_true, Bool.or_eq_true, Bool.and_eq_false_iff, Bool.or_eq_false_iff] at hs7
      refine RL.p T ?_
      refine RL.lv1 T ?_
      exact hj
     ·repeat first | with_reducible exact Mx.refl | with_reducible exact Mx.mix | refine Mx.put rfl ?_ | refine Mx.upd rfl ?_ | refine Mx.updl rfl ?_ | refine Mx.fin rfl ?_ | refine Mx.inner rfl ?_ | refine Mx.none ?_ | exact Mx.refl | exact Mx.mix
     refine RL.or ?_
     refine RL.p T ?_
     refine RL.join (fr1 := ?_) 2 80 false [81, 82] (fun hs8 hj => ?_) ?_ ?_
     rotate_left
     ·have hs8j := hs8
      try simp only [decide_eq_true_eq, Bool.not_eq_true', decide_eq_false_iff_not, Bool.not_eq_false', Int.not_lt, Int.not_le, Int.toNat_natCast, Bool.and_eq_true, Bool.or_eq_true, Bool.and_eq_false_iff, Bool.or_eq_false_iff] at hs8
      refine RL.p T ?_
      refine RL.lv1 T ?_
      exact hj
     ·repeat first | with_reducible exact Mx.refl | with_reducible exact Mx.mix | refine Mx.put rfl ?_ | refine Mx.upd rfl ?_ | refine Mx.updl rfl ?_ | refine Mx.fin rfl ?_ | refine Mx.inner rfl ?_ | refine Mx.none ?_ | exact Mx.refl | exact Mx.mix
     refine RL.or ?_
     refine RL.p T ?_
     refine RL.join (fr1 := ?_) 3 84 false [85, 86, 87] (fun hs9 hj => ?_) ?_ ?_
     rotate_left
     ·have hs9j := hs9
      try simp only [decide_eq_true_eq, Bool.not_eq_true', decide_eq_false_iff_not, Bool.not_eq_false', Int.not_lt, Int.not_le, Int.toNat_natCast, Bool.and_eq_true, Bool.or_eq_true, Bool.and_eq_false_iff, Bool.or_eq_false_iff] at hs9
      refine RL.p T ?_
      refine RL.lv1 T ?_
      refine RL.p T ?_
      exact hj
     ·repeat first | with_reducible exact Mx.refl | with_reducible exact Mx.mix | refine Mx.put rfl ?_ | refine Mx.upd rfl ?_ | refine Mx.updl rfl ?_ | refine Mx.fin rfl ?_ | refine Mx.inner rfl ?_ | refine Mx.none ?_ | exact Mx.refl | exact Mx.mix
     refine RL.or ?_
     refine RL.p T ?_
     refine RL.join (fr1 := ?_) 3 89 false [90, 91, 92] (fun hs10 hj => ?_) ?_ ?_
     rotate_left
     ·have hs10j := hs10
      try simp only [decide_eq_true_eq, Bool.not_eq_true', decide_eq_false_iff_not, Bool.not_eq_false', Int.not_lt, Int.not_le, Int.toNat_natCast, Bool.and_eq_true, Bool.or_eq_true, Bool.and_eq_false_iff, Bool.or_eq_false_iff] at hs10
      refine RL.p T ?_
      refine RL.lv1 T ?_
      refine RL.p T ?_
      exact hj
     ·repeat first | with_reducible exact Mx.refl | with_reducible exact Mx.mix | refine Mx.put rfl ?_ | refine Mx.upd rfl ?_ | refine Mx.updl rfl ?_ | refine Mx.fin rfl ?_ | refine Mx.inner rfl ?_ | refine Mx.none ?_ | exact Mx.refl | exact Mx.mix
     refine RL.or ?_
     refine RL.p T ?_
     refine RL.join (fr1 := ?_) 3 94 false [95, 96, 97] (fun hs11 hj => ?_) ?_ ?_
     rotate_left
     ·have hs11j := hs11
      try simp only [decide_eq_true_eq, Bool.not_eq_true', decide_eq_false_iff_not, Bool.not_eq_false', Int.not_lt, Int.not_le, Int.toNat_natCast, Bool.and_eq_true, Bool.or_eq_true, Bool.and_eq_false_iff, Bool.or_eq_false_iff] at hs11
      refine RL.p T ?_
      refine RL.lv1 T ?_
      refine RL.p T ?_
      exact hj
     ·repeat first | with_reducible exact Mx.refl | with_reducible exact Mx.mix | refine Mx.put rfl ?_ | refine Mx.upd rfl ?_ | refine Mx.updl rfl ?_ | refine Mx.fin rfl ?_ | refine Mx.inner rfl ?_ | refine Mx.none ?_ | exact Mx.refl | exact Mx.mix
     refine RL.or ?_
     refine RL.nil _ _ _ _ ?_
     refine hK17 _ _ _ ?_
     refine SW.cs (fun hc4 => ?_) (fun hc4 => ?_)
     ·skip
      refine SW.seq_k fun K18 hK18 => ?_
      refine SW.region _ _ _ _ ?_
      refine RL.p T ?_
      refine RL.nil _ _ _ _ ?_
      refine hK18 _ _ _ ?_
      refine SW.ret ?_
      try clear e
      refine retQ.rr (H) ?_
      clear hK18 K18 hK17 K17 hK16 K16 hK14 K14 hK13 K13 hK11 K11 hK10 K10 hK9 K9 hK8 K8 hK7 K7 hK5 K5 hK4 K4 hK3 K3 hK2 K2 hK1 K1 hK0 K0
      subst hn
      refine ⟨intE ?_, rfl⟩
      first
        | exact (chkF_2 (f := f) (fun h => by have := code_kind h.1; unfold RestF at h; grind)).symm
        | exact (chkF_0 (f := f) (by unfold RestF; have := code_kind hc0; grind)).symm
     ·skip
      refine SW.skip ?_
      refine hK16 _ _ _ ?_
      refine SW.seq_k fun K19 hK19 => ?_
      refine SW.region _ _ _ _ ?_
      refine RL.p T ?_
      refine RL.nil _ _ _ _ ?_
      refine hK19 _ _ _ ?_
      refine SW.ret ?_
      try clear e
      refine retQ.rr (H) ?_
      clear hK19 K19 hK17 K17 hK16 K16 hK14 K14 hK13 K13 hK11 K11 hK10 K10 hK9 K9 hK8 K8 hK7 K7 hK5 K5 hK4 K4 hK3 K3 hK2 K2 hK1 K1 hK0 K0
      subst hn
      refine ⟨intE ?_, rfl⟩
      first
        | exact (chkF_2 (f := f) (fun h => by have := code_kind h.1; unfold RestF at h; grind)).symm
        | exact (chkF_0 (f := f) (by unfold RestF; have := code_kind hc0; grind)).symm
  ·skip
   refine SW.seq_k fun K20 hK20 => ?_
   refine SW.region _ _ _ _ ?_
   refine RL.p T ?_
   refine RL.p T ?_
   refine RL.nil _ _ _ _ ?_
   refine hK20 _ _ _ ?_
   refine SW.cs (fun hc5 => ?_) (fun hc5 => ?_)
   ·skip
    refine SW.region _ _ _ _ ?_
    refine RL.p T ?_
    refine RL.sv1 T ?_
    refine RL.p T ?_
    refine RL.sv1 T ?_
    refine RL.nil _ _ _ _ ?_
    refine hK7 _ _ _ ?_
    refine SW.seq_k fun K21 hK21 => ?_
    refine SW.seq_k fun K22 hK22 => ?_
    refine SW.region _ _ _ _ ?_
    refine RL.p T ?_
    refine RL.lv1 T ?_
    refine RL.p T ?_
    refine RL.p T ?_
    refine RL.join (fr1 := ?_) 3 61 true [62, 63, 64] (fun hs12 hj => ?_) ?_ ?_
    rotate_left
    ·have hs12j := hs12
     try simp only [decide_eq_true_eq, Bool.not_eq_true', decide_eq_false_iff_not, Bool.not_eq_false', Int.not_lt, Int.not_le, Int.toNat_natCast, Bool.and_eq_true, Bool.or_eq_true, Bool.and_eq_false_iff, Bool.or_eq_false_iff] at hs12
     refine RL.p T ?_
     refine RL.lv1 T ?_
     refine RL.p T ?_
     exact hj
    ·repeat first | with_reducible exact Mx.refl | with_reducible exact Mx.mix | refine Mx.put rfl ?_ | refine Mx.upd rfl ?_ | refine Mx.updl rfl ?_ | refine Mx.fin rfl ?_ | refine Mx.inner rfl ?_ | refine Mx.none ?_ | exact Mx.refl | exact Mx.mix
    refine RL.and ?_
    refine RL.nil _ _ _ _ ?_
    refine hK22 _ _ _ ?_
    refine SW.cs (fun hc6 => ?_) (fun hc6 => ?_)
    ·skip
     refine SW.seq_k fun K23 hK23 => ?_
     refine SW.region _ _ _ _ ?_
     refine RL.p T ?_
     refine RL.nil _ _ _ _ ?_
     refine hK23 _ _ _ ?_
     refine SW.ret ?_
     try clear e
     refine retQ.rr (H) ?_
     clear hK23 K23 hK22 K22 hK21 K21 hK20 K20 hK9 K9 hK8 K8 hK7 K7 hK5 K5 hK4 K4 hK3 K3 hK2 K2 hK1 K1 hK0 K0
     subst hn
     refine ⟨intE ?_, rfl⟩
     first
       | exact (chkF_2 (f := f) (fun h => by have := code_kind h.1; unfold RestF at h; grind)).symm
       | exact (chkF_0 (f := f) (by unfold RestF; have := code_kind hc0; grind)).symm
    ·skip
     refine SW.skip ?_
     refine hK21 _ _ _ ?_
     refine SW.seq_k fun K24 hK24 => ?_
     refine SW.seq_k fun K25 hK25 => ?_
     refine SW.region _ _ _ _ ?_
     refine RL.p T ?_
     refine RL.lv1 T ?_
     refine RL.p T ?_
     refine RL.join (fr1 := ?_) 2 68 false [69, 70] (fun hs13 hj => ?_) ?_ ?_
     rotate_left
     ·have hs13j := hs13
      try simp only [decide_eq_true_eq, Bool.not_eq_true', decide_eq_false_iff_not, Bool.not_eq_false', Int.not_lt, Int.not_le, Int.toNat_natCast, Bool.and_eq_true, Bool.or_eq_true, Bool.and_eq_false_iff, Bool.or_eq_false_iff] at hs13
      refine RL.p T ?_
      refine RL.lv1 T ?_
      exact hj
     ·repeat first | with_reducible exact Mx.refl | with_reducible exact Mx.mix | refine Mx.put rfl ?_ | refine Mx.upd rfl ?_ | refine Mx.updl rfl ?_ | refine Mx.fin rfl ?_ | refine Mx.inner rfl ?_ | refine Mx.none ?_ | exact Mx.refl | exact Mx.mix
     refine RL.or ?_
     refine RL.p T ?_
     refine RL.join (fr1 := ?_) 2 72 false [73, 74] (fun hs14 hj => ?_) ?_ ?_
     rotate_left
     ·have hs14j := hs14
      try simp only [decide_eq_true_eq, Bool.not_eq_true', decide_eq_false_iff_not, Bool.not_eq_false', Int.not_lt, Int.not_le, Int.toNat_natCast, Bool.and_eq_true, Bool.or_eq_true, Bool.and_eq_false_iff, Bool.or_eq_false_iff] at hs14
      refine RL.p T ?_
      refine RL.lv1 T ?_
      exact hj
     ·repeat first | with_reducible exact Mx.refl | with_reducible exact Mx.mix | refine Mx.put rfl ?_ | refine Mx.upd rfl ?_ | refine Mx.updl rfl ?_ | refine Mx.fin rfl ?_ | refine Mx.inner rfl ?_ | refine Mx.none ?_ | exact Mx.refl | exact Mx.mix
     refine RL.or ?_
     refine RL.p T ?_
     refine RL.join (fr1 := ?_) 2 76 false [77, 78] (fun hs15 hj => ?_) ?_ ?_
     rotate_left
     ·have hs15j := hs15
      try simp only [decide_eq_true_eq, Bool.not_eq_true', decide_eq_false_iff_not, Bool.not_eq_false', Int.not_lt, Int.not_le, Int.toNat_natCast, Bool.and_eq_true, Bool.or_eq_true, Bool.and_eq_false_iff, Bool.or_eq_false_iff] at hs15
      refine RL.p T ?_
      refine RL.lv1 T ?_
      exact hj
     ·repeat first | with_reducible exact Mx.refl | with_reducible exact Mx.mix | refine Mx.put rfl ?_ | refine Mx.upd rfl ?_ | refine Mx.updl rfl ?_ | refine Mx.fin rfl ?_ | refine Mx.inner rfl ?_ | refine Mx.none ?_ | exact Mx.refl | exact Mx.mix
     refine RL.or ?_
     refine RL.p T ?_
     refine RL.join (fr1 := ?_) 2 80 false [81, 82] (fun hs16 hj => ?_) ?_ ?_
     rotate_left
     ·have hs16j := hs16
      try simp only [decide_eq_true_eq, Bool.not_eq_true', decide_eq_false_iff_not, Bool.not_eq_false', Int.not_lt, Int.not_le, Int.toNat_natCast, Bool.and_eq_true, Bool.or_eq_true, Bool.and_eq_false_iff, Bool.or_eq_false_iff] at hs16
      refine RL.p T ?_
      refine RL.lv1 T ?_
      exact hj
     ·repeat first | with_reducible exact Mx.refl | with_reducible exact Mx.mix | refine Mx.put rfl ?_ | refine Mx.upd rfl ?_ | refine Mx.updl rfl ?_ | refine Mx.fin rfl ?_ | refine Mx.inner rfl ?_ | refine Mx.none ?_ | exact Mx.refl | exact Mx.mix
     refine RL.or ?_
     refine RL.p T ?_
     refine RL.join (fr1 := ?_) 3 84 false [85, 86, 87] (fun hs17 hj => ?_) ?_ ?_
     rotate_left
     ·have hs17j := hs17
      try simp only [decide_eq_true_eq, Bool.not_eq_true', decide_eq_false_iff_not, Bool.not_eq_false', Int.not_lt, Int.not_le, Int.toNat_natCast, Bool.and_eq_true, Bool.or_eq_true, Bool.and_eq_false_iff, Bool.or_eq_false_iff] at hs17
      refine RL.p T ?_
      refine RL.lv1 T ?_
      refine RL.p T ?_
      exact hj
     ·repeat first | with_reducible exact Mx.refl | with_reducible exact Mx.mix | refine Mx.put rfl ?_ | refine Mx.upd rfl ?_ | refine Mx.updl rfl ?_ | refine Mx.fin rfl ?_ | refine Mx.inner rfl ?_ | refine Mx.none ?_ | exact Mx.refl | exact Mx.mix
     refine RL.or ?_
     refine RL.p T ?_
     refine RL.join (fr1 := ?_) 3 89 false [90, 91, 92] (fun hs18 hj => ?_) ?_ ?_
     rotate_left
     ·have hs18j := hs18
      try simp only [decide_eq_true_eq, Bool.not_eq_true', decide_eq_false_iff_not, Bool.not_eq_false', Int.not_lt, Int.not_le, Int.toNat_natCast, Bool.and_eq_true, Bool.or_eq_true, Bool.and_eq_false_iff, Bool.or_eq_false_iff] at hs18
      refine RL.p T ?_
      refine RL.lv1 T ?_
      refine RL.p T ?_
      exact hj
     ·repeat first | with_reducible exact Mx.refl | with_reducible exact Mx.mix | refine Mx.put rfl ?_ | refine Mx.upd rfl ?_ | refine Mx.updl rfl ?_ | refine Mx.fin rfl ?_ | refine Mx.inner rfl ?_ | refine Mx.none ?_ | exact Mx.refl | exact Mx.mix
     refine RL.or ?_
     refine RL.p T ?_
     refine RL.join (fr1 := ?_) 3 94 false [95, 96, 97] (fun hs19 hj => ?_) ?_ ?_
     rotate_left
     ·have hs19j := hs19
      try simp only [decide_eq_true_eq, Bool.not_eq_true', decide_eq_false_iff_not, Bool.not_eq_false', Int.not_lt, Int.not_le, Int.toNat_natCast, Bool.and_eq_true, Bool.or_eq_true, Bool.and_eq_false_iff, Bool.or_eq_false_iff] at hs19
      refine RL.p T ?_
      refine RL.lv1 T ?_
      refine RL.p T ?_
      exact hj
     ·repeat first | with_reducible exact Mx.refl | with_reducible exact Mx.mix | refine Mx.put rfl ?_ | refine Mx.upd rfl ?_ | refine Mx.updl rfl ?_ | refine Mx.fin rfl ?_ | refine Mx.inner rfl ?_ | refine Mx.none ?_ | exact Mx.refl | exact Mx.mix
     refine RL.or ?_
     refine RL.nil _ _ _ _ ?_
     refine hK25 _ _ _ ?_
     refine SW.cs (fun hc7 => ?_) (fun hc7 => ?_)
     ·skip
      refine SW.seq_k fun K26 hK26 => ?_
      refine SW.region _ _ _ _ ?_
      refine RL.p T ?_
      refine RL.nil _ _ _ _ ?_
      refine hK26 _ _ _ ?_
      refine SW.ret ?_
      try clear e
      refine retQ.rr (H) ?_
      clear hK26 K26 hK25 K25 hK24 K24 hK22 K22 hK21 K21 hK20 K20 hK9 K9 hK8 K8 hK7 K7 hK5 K5 hK4 K4 hK3 K3 hK2 K2 hK1 K1 hK0 K0
      subst hn
      refine ⟨intE ?_, rfl⟩
      first
        | exact (chkF_2 (f := f) (fun h => by have := code_kind h.1; unfold RestF at h; grind)).symm
        | exact (chkF_0 (f := f) (by unfold RestF; have := code_kind hc0; grind)).symm
     ·skip
      refine SW.skip ?_
      refine hK24 _ _ _ ?_
      refine SW.seq_k fun K27 hK27 => ?_
      refine SW.region _ _ _ _ ?_
      refine RL.p T ?_
      refine RL.nil _ _ _ _ ?_
      refine hK27 _ _ _ ?_
      refine SW.ret ?_
      try clear e
      refine retQ.rr (H) ?_
      clear hK27 K27 hK25 K25 hK24 K24 hK22 K22 hK21 K21 hK20 K20 hK9 K9 hK8 K8 hK7 K7 hK5 K5 hK4 K4 hK3 K3 hK2 K2 hK1 K1 hK0 K0
      subst hn
      refine ⟨intE ?_, rfl⟩
      first
        | exact (chkF_2 (f := f) (fun h => by have := code_kind h.1; unfold RestF at h; grind)).symm
        | exact (chkF_0 (f := f) (by unfold RestF; have := code_kind hc0; grind)).symm
   ·skip
    refine SW.seq_k fun K28 hK28 => ?_
    refine SW.region _ _ _ _ ?_
    refine RL.p T ?_
    refine RL.p T ?_
    refine RL.nil _ _ _ _ ?_
    refine hK28 _ _ _ ?_
    refine SW.cs (fun hc8 => ?_) (fun hc8 => ?_)
    ·skip
     refine SW.region _ _ _ _ ?_
     refine RL.p T ?_
     refine RL.sv1 T ?_
     refine RL.p T ?_
     refine RL.sv1 T ?_
     refine RL.p T ?_
     refine RL.sv1 T ?_
     refine RL.p T ?_
     refine RL.sv1 T ?_
     refine RL.nil _ _ _ _ ?_
     refine hK7 _ _ _ ?_
     refine SW.seq_k fun K29 hK29 => ?_
     refine SW.seq_k fun K30 hK30 => ?_
     refine SW.region _ _ _ _ ?_
     refine RL.p T ?_
     refine RL.lv1 T ?_
     refine RL.p T ?_
     refine RL.p T ?_
     refine RL.join (fr1 := ?_) 3 61 true [62, 63, 64] (fun hs20 hj => ?_) ?_ ?_
     rotate_left
     ·have hs20j := hs20
      try simp only [decide_eq_true_eq, Bool.not_eq_true', decide_eq_false_iff_not, Bool.not_eq_false', Int.not_lt, Int.not_le, Int.toNat_natCast, Bool.and_eq_true, Bool.or_eq_true, Bool.and_eq_false_iff, Bool.or_eq_false_iff] at hs20
      refine RL.p T ?_
      refine RL.lv1 T ?_
      refine RL.p T ?_
      exact hj
     ·repeat first | with_reducible exact Mx.refl | with_reducible exact Mx.mix | refine Mx.put rfl ?_ | refine Mx.upd rfl ?_ | refine Mx.updl rfl ?_ | refine Mx.fin rfl ?_ | refine Mx.inner rfl ?_ | refine Mx.none ?_ | exact Mx.refl | exact Mx.mix
     refine RL.and ?_
     refine RL.nil _ _ _ _ ?_
     refine hK30 _ _ _ ?_
     refine SW.cs (fun hc9 => ?_) (fun hc9 => ?_)
     ·skip
      refine SW.seq_k fun K31 hK31 => ?_
      refine SW.region _ _ _ _ ?_
      refine RL.p T ?_
      refine RL.nil _ _ _ _ ?_
      refine hK31 _ _ _ ?_
      refine SW.ret ?_
      try clear e
      refine retQ.rr (H) ?_
      clear hK31 K31 hK30 K30 hK29 K29 hK28 K28 hK20 K20 hK9 K9 hK8 K8 hK7 K7 hK5 K5 hK4 K4 hK3 K3 hK2 K2 hK1 K1 hK0 K0
      subst hn
      refine ⟨intE ?_, rfl⟩
      first
        | exact (chkF_2 (f := f) (fun h => by have := code_kind h.1; unfold RestF at h; grind)).symm
        | exact (chkF_0 (f := f) (by unfold RestF; have := code_kind hc0; grind)).symm
     ·skip
      refine SW.skip ?_
      refine hK29 _ _ _ ?_
      refine SW.seq_k fun K32 hK32 => ?_
      refine SW.seq_k fun K33 hK33 => ?_
      refine SW.region _ _ _ _ ?_
      refine RL.p T ?_
      refine RL.lv1 T ?_
      refine RL.p T ?_
      refine RL.join (fr1 := ?_) 2 68 false [69, 70] (fun hs21 hj => ?_) ?_ ?_
      rotate_left
      ·have hs21j := hs21
       try simp only [decide_eq_true_eq, Bool.not_eq_true', decide_eq_false_iff_not, Bool.not_eq_false', Int.not_lt, Int.not_le, Int.toNat_natCast, Bool.and_eq_true, Bool.or_eq_true, Bool.and_eq_false_iff, Bool.or_eq_false_iff] at hs21
       refine RL.p T ?_
       refine RL.lv1 T ?_
       exact hj
      ·repeat first | with_reducible exact Mx.refl | with_reducible exact Mx.mix | refine Mx.put rfl ?_ | refine Mx.upd rfl ?_ | refine Mx.updl rfl ?_ | refine Mx.fin rfl ?_ | refine Mx.inner rfl ?_ | refine Mx.none ?_ | exact Mx.refl | exact Mx.mix
      refine RL.or ?_
      refine RL.p T ?_
      refine RL.join (fr1 := ?_) 2 72 false [73, 74] (fun hs22 hj => ?_) ?_ ?_
      rotate_left
      ·have hs22j := hs22
       try simp only [decide_eq_true_eq, Bool.not_eq_true', decide_eq_false_iff_not, Bool.not_eq_false', Int.not_lt, Int.not_le, Int.toNat_natCast, Bool.and_eq_true, Bool.or_eq_true, Bool.and_eq_false_iff, Bool.or_eq_false_iff] at hs22
       refine RL.p T ?_
       refine RL.lv1 T ?_
       exact hj
      ·repeat first | with_reducible exact Mx.refl | with_reducible exact Mx.mix | refine Mx.put rfl ?_ | refine Mx.upd rfl ?_ | refine Mx.updl rfl ?_ | refine Mx.fin rfl ?_ | refine Mx.inner rfl ?_ | refine Mx.none ?_ | exact Mx.refl | exact Mx.mix
      refine RL.or ?_
      refine RL.p T ?_
      refine RL.join (fr1 := ?_) 2 76 false [77, 78] (fun hs23 hj => ?_) ?_ ?_
      rotate_left
      ·have hs23j := hs23
       try simp only [decide_eq_true_eq, Bool.not_eq_true', decide_eq_false_iff_not, Bool.not_eq_false', Int.not_lt, Int.not_le, Int.toNat_natCast, Bool.and_eq_true, Bool.or_eq_true, Bool.and_eq_false_iff, Bool.or_eq_false_iff] at hs23
       refine RL.p T ?_
       refine RL.lv1 T ?_
       exact hj
      ·repeat first | with_reducible exact Mx.refl | with_reducible exact Mx.mix | refine Mx.put rfl ?_ | refine Mx.upd rfl ?_ | refine Mx.updl rfl ?_ | refine Mx.fin rfl ?_ | refine Mx.inner rfl ?_ | refine Mx.none ?_ | exact Mx.refl | exact Mx.mix
      refine RL.or ?_
      refine RL.p T ?_
      refine RL.join (fr1 := ?_) 2 80 false [81, 82] (fun hs24 hj => ?_) ?_ ?_
      rotate_left
      ·have hs24j := hs24
       try simp only [decide_eq_true_eq, Bool.not_eq_true', decide_eq_false_iff_not, Bool.not_eq_false', Int.not_lt, Int.not_le, Int.toNat_natCast, Bool.and_eq_true, Bool.or_eq_true, Bool.and_eq_false_iff, Bool.or_eq_false_iff] at hs24
       refine RL.p T ?_
       refine RL.lv1 T ?_
       exact hj
      ·repeat first | with_reducible exact Mx.refl | with_reducible exact Mx.mix | refine Mx.put rfl ?_ | refine Mx.upd rfl ?_ | refine Mx.updl rfl ?_ | refine Mx.fin rfl ?_ | refine Mx.inner rfl ?_ | refine Mx.none ?_ | exact Mx.refl | exact Mx.mix
      refine RL.or ?_
      refine RL.p T ?_
      refine RL.join (fr1 := ?_) 3 84 false [85, 86, 87] (fun hs25 hj => ?_) ?_ ?_
      rotate_left
      ·have hs25j := hs25
       try simp only [decide_eq_true_eq, Bool.not_eq_true', decide_eq_false_iff_not, Bool.not_eq_false', Int.not_lt, Int.not_le, Int.toNat_natCast, Bool.and_eq_true, Bool.or_eq_true, Bool.and_eq_false_iff, Bool.or_eq_false_iff] at hs25
       refine RL.p T ?_
       refine RL.lv1 T ?_
       refine RL.p T ?_
       exact hj
      ·repeat first | with_reducible exact Mx.refl | with_reducible exact Mx.mix | refine Mx.put rfl ?_ | refine Mx.upd rfl ?_ | refine Mx.updl rfl ?_ | refine Mx.fin rfl ?_ | refine Mx.inner rfl ?_ | refine Mx.none ?_ | exact Mx.refl | exact Mx.mix
      refine RL.or ?_
      refine RL.p T ?_
      refine RL.join (fr1 := ?_) 3 89 false [90, 91, 92] (fun hs26 hj => ?_) ?_ ?_
      rotate_left
      ·have hs26j := hs26
       try simp only [decide_eq_true_eq, Bool.not_eq_true', decide_eq_false_iff_not, Bool.not_eq_false', Int.not_lt, Int.not_le, Int.toNat_natCast, Bool.and_eq_true, Bool.or_eq_true, Bool.and_eq_false_iff, Bool.or_eq_false_iff] at hs26
       refine RL.p T ?_
       refine RL.lv1 T ?_
       refine RL.p T ?_
       exact hj
      ·repeat first | with_reducible exact Mx.refl | with_reducible exact Mx.mix | refine Mx.put rfl ?_ | refine Mx.upd rfl ?_ | refine Mx.updl rfl ?_ | refine Mx.fin rfl ?_ | refine Mx.inner rfl ?_ | refine Mx.none ?_ | exact Mx.refl | exact Mx.mix
      refine RL.or ?_
      refine RL.p T ?_
      refine RL.join (fr1 := ?_) 3 94 false [95, 96, 97] (fun hs27 hj => ?_) ?_ ?_
      rotate_left
      ·have hs27j := hs27
       try simp only [decide_eq_true_eq, Bool.not_eq_true', decide_eq_false_iff_not, Bool.not_eq_false', Int.not_lt, Int.not_le, Int.toNat_natCast, Bool.and_eq_true, Bool.or_eq_true, Bool.and_eq_false_iff, Bool.or_eq_false_iff] at hs27
       refine RL.p T ?_
       refine RL.lv1 T ?_
       refine RL.p T ?_
       exact hj
      ·repeat first | with_reducible exact Mx.refl | with_reducible exact Mx.mix | refine Mx.put rfl ?_ | refine Mx.upd rfl ?_ | refine Mx.updl rfl ?_ | refine Mx.fin rfl ?_ | refine Mx.inner rfl ?_ | refine Mx.none ?_ | exact Mx.refl | exact Mx.mix
      refine RL.or ?_
      refine RL.nil _ _ _ _ ?_
      refine hK33 _ _ _ ?_
      refine SW.cs (fun hc10 => ?_) (fun hc10 => ?_)
      ·skip
       refine SW.seq_k fun K34 hK34 => ?_
       refine SW.region _ _ _ _ ?_
       refine RL.p T ?_
       refine RL.nil _ _ _ _ ?_
       refine hK34 _ _ _ ?_
       refine SW.ret ?_
       try clear e
       refine retQ.rr (H) ?_
       clear hK34 K34 hK33 K33 hK32 K32 hK30 K30 hK29 K29 hK28 K28 hK20 K20 hK9 K9 hK8 K8 hK7 K7 hK5 K5 hK4 K4 hK3 K3 hK2 K2 hK1 K1 hK0 K0
       subst hn
       refine ⟨intE ?_, rfl⟩
       first
         | exact (chkF_2 (f := f) (fun h => by have := code_kind h.1; unfold RestF at h; grind)).symm
         | exact (chkF_0 (f := f) (by unfold RestF; have := code_kind hc0; grind)).symm
      ·skip
       refine SW.skip ?_
       refine hK32 _ _ _ ?_
       refine SW.seq_k fun K35 hK35 => ?_
       refine SW.region _ _ _ _ ?_
       refine RL.p T ?_
       refine RL.nil _ _ _ _ ?_
       refine hK35 _ _ _ ?_
       refine SW.ret ?_
       try clear e
       refine retQ.rr (H) ?_
       clear hK35 K35 hK33 K33 hK32 K32 hK30 K30 hK29 K29 hK28 K28 hK20 K20 hK9 K9 hK8 K8 hK7 K7 hK5 K5 hK4 K4 hK3 K3 hK2 K2 hK1 K1 hK0 K0
       subst hn
       refine ⟨intE ?_, rfl⟩
       first
         | exact (chkF_2 (f := f) (fun h => by have := code_kind h.1; unfold RestF at h; grind)).symm
         | exact (chkF_0 (f := f) (by unfold RestF; have := code_kind hc0; grind)).symm
    ·skip
     refine SW.skip ?_
     refine hK7 _ _ _ ?_
     refine SW.seq_k fun K36 hK36 => ?_
     refine SW.seq_k fun K37 hK37 => ?_
     refine SW.region _ _ _ _ ?_
     refine RL.p T ?_
     refine RL.lv1 T ?_
     refine RL.p T ?_
     refine RL.p T ?_
     refine RL.join (fr1 := ?_) 3 61 true [62, 63, 64] (fun hs28 hj => ?_) ?_ ?_
     rotate_left
     ·have hs28j := hs28
      try simp only [decide_eq_true_eq, Bool.not_eq_true', decide_eq_false_iff_not, Bool.not_eq_false', Int.not_lt, Int.not_le, Int.toNat_natCast, Bool.and_eq_true, Bool.or_eq_true, Bool.and_eq_false_iff, Bool.or_eq_false_iff] at hs28
      refine RL.p T ?_
      refine RL.lv1 T ?_
      refine RL.p T ?_
      exact hj
     ·repeat first | with_reducible exact Mx.refl | with_reducible exact Mx.mix | refine Mx.put rfl ?_ | refine Mx.upd rfl ?_ | refine Mx.updl rfl ?_ | refine Mx.fin rfl ?_ | refine Mx.inner rfl ?_ | refine Mx.none ?_ | exact Mx.refl | exact Mx.mix
     refine RL.and ?_
     refine RL.nil _ _ _ _ ?_
     refine hK37 _ _ _ ?_
     refine SW.cs (fun hc11 => ?_) (fun hc11 => ?_)
     ·skip
      refine SW.seq_k fun K38 hK38 => ?_
      refine SW.region _ _ _ _ ?_
      refine RL.p T ?_
      refine RL.nil _ _ _ _ ?_
      refine hK38 _ _ _ ?_
      refine SW.ret ?_
      try clear e
      refine retQ.rr (H) ?_
      clear hK38 K38 hK37 K37 hK36 K36 hK28 K28 hK20 K20 hK9 K9 hK8 K8 hK7 K7 hK5 K5 hK4 K4 hK3 K3 hK2 K2 hK1 K1 hK0 K0
      subst hn
      refine ⟨intE ?_, rfl⟩
      first
        | exact (chkF_2 (f := f) (fun h => by have := code_kind h.1; unfold RestF at h; grind)).symm
        | exact (chkF_0 (f := f) (by unfold RestF; have := code_kind hc0; grind)).symm
     ·skip
      refine SW.skip ?_
      refine hK36 _ _ _ ?_
      refine SW.seq_k fun K39 hK39 => ?_
      refine SW.seq_k fun K40 hK40 => ?_
      refine SW.region _ _ _ _ ?_
      refine RL.p T ?_
      refine RL.lv1 T ?_
      refine RL.p T ?_
      refine RL.join (fr1 := ?_) 2 68 false [69, 70] (fun hs29 hj => ?_) ?_ ?_
      rotate_left
      ·have hs29j := hs29
       try simp only [decide_eq_true_eq, Bool.not_eq_true', decide_eq_false_iff_not, Bool.not_eq_false', Int.not_lt, Int.not_le, Int.toNat_natCast, Bool.and_eq_true, Bool.or_eq_true, Bool.and_eq_false_iff, Bool.or_eq_false_iff] at hs29
       refine RL.p T ?_
       refine RL.lv1 T ?_
       exact hj
      ·repeat first | with_reducible exact Mx.refl | with_reducible exact Mx.mix | refine Mx.put rfl ?_ | refine Mx.upd rfl ?_ | refine Mx.updl rfl ?_ | refine Mx.fin rfl ?_ | refine Mx.inner rfl ?_ | refine Mx.none ?_ | exact Mx.refl | exact Mx.mix
      refine RL.or ?_
      refine RL.p T ?_
      refine RL.join (fr1 := ?_) 2 72 false [73, 74] (fun hs30 hj => ?_) ?_ ?_
      rotate_left
      ·have hs30j := hs30
       try simp only [decide_eq_true_eq, Bool.not_eq_true', decide_eq_false_iff_not, Bool.not_eq_false', Int.not_lt, Int.not_le, Int.toNat_natCast, Bool.and_eq_true, Bool.or_eq_true, Bool.and_eq_false_iff, Bool.or_eq_false_iff] at hs30
       refine RL.p T ?_
       refine RL.lv1 T ?_
       exact hj
      ·repeat first | with_reducible exact Mx.refl | with_reducible exact Mx.mix | refine Mx.put rfl ?_ | refine Mx.upd rfl ?_ | refine Mx.updl rfl ?_ | refine Mx.fin rfl ?_ | refine Mx.inner rfl ?_ | refine Mx.none ?_ | exact Mx.refl | exact Mx.mix
      refine RL.or ?_
      refine RL.p T ?_
      refine RL.join (fr1 := ?_) 2 76 false [77, 78] (fun hs31 hj => ?_) ?_ ?_
      rotate_left
      ·have hs31j := hs31
       try simp only [decide_eq_true_eq, Bool.not_eq_true', decide_eq_false_iff_not, Bool.not_eq_false', Int.not_lt, Int.not_le, Int.toNat_natCast, Bool.and_eq_true, Bool.or_eq_true, Bool.and_eq_false_iff, Bool.or_eq_false_iff] at hs31
       refine RL.p T ?_
       refine RL.lv1 T ?_
       exact hj
      ·repeat first | with_reducible exact Mx.refl | with_reducible exact Mx.mix | refine Mx.put rfl ?_ | refine Mx.upd rfl ?_ | refine Mx.updl rfl ?_ | refine Mx.fin rfl ?_ | refine Mx.inner rfl ?_ | refine Mx.none ?_ | exact Mx.refl | exact Mx.mix
      refine RL.or ?_
      refine RL.p T ?_
      refine RL.join (fr1 := ?_) 2 80 false [81, 82] (fun hs32 hj => ?_) ?_ ?_
      rotate_left
      ·have hs32j := hs32
       try simp only [decide_eq_true_eq, Bool.not_eq_true', decide_eq_false_iff_not, Bool.not_eq_false', Int.not_lt, Int.not_le, Int.toNat_natCast, Bool.and_eq_true, Bool.or_eq_true, Bool.and_eq_false_iff, Bool.or_eq_false_iff] at hs32
       refine RL.p T ?_
       refine RL.lv1 T ?_
       exact hj
      ·repeat first | with_reducible exact Mx.refl | with_reducible exact Mx.mix | refine Mx.put rfl ?_ | refine Mx.upd rfl ?_ | refine Mx.updl rfl ?_ | refine Mx.fin rfl ?_ | refine Mx.inner rfl ?_ | refine Mx.none ?_ | exact Mx.refl | exact Mx.mix
      refine RL.or ?_
      refine RL.p T ?_
      refine RL.join (fr1 := ?_) 3 84 false [85, 86, 87] (fun hs33 hj => ?_) ?_ ?_
      rotate_left
      ·have hs33j := hs33
       try simp only [decide_eq_true_eq, Bool.not_eq_true', decide_eq_false_iff_not, Bool.not_eq_false', Int.not_lt, Int.not_le, Int.toNat_natCast, Bool.and_eq_true, Bool.or_eq_true, Bool.and_eq_false_iff, Bool.or_eq_false_iff] at hs33
       refine RL.p T ?_
       refine RL.lv1 T ?_
       refine RL.p T ?_
       exact hj
      ·repeat first | with_reducible exact Mx.refl | with_reducible exact Mx.mix | refine Mx.put rfl ?_ | refine Mx.upd rfl ?_ | refine Mx.updl rfl ?_ | refine Mx.fin rfl ?_ | refine Mx.inner rfl ?_ | refine Mx.none ?_ | exact Mx.refl | exact Mx.mix
      refine RL.or ?_
      refine RL.p T ?_
      refine RL.join (fr1 := ?_) 3 89 false [90, 91, 92] (fun hs34 hj => ?_) ?_ ?_
      rotate_left
      ·have hs34j := hs34
       try simp only [decide_eq_true_eq, Bool.not_eq_true', decide_eq_false_iff_not, Bool.not_eq_false', Int.not_lt, Int.not_le, Int.toNat_natCast, Bool.and_eq_true, Bool.or_eq_true, Bool.and_eq_false_iff, Bool.or_eq_false_iff] at hs34
       refine RL.p T ?_
       refine RL.lv1 T ?_
       refine RL.p T ?_
       exact hj
      ·repeat first | with_reducible exact Mx.refl | with_reducible exact Mx.mix | refine Mx.put rfl ?_ | refine Mx.upd rfl ?_ | refine Mx.updl rfl ?_ | refine Mx.fin rfl ?_ | refine Mx.inner rfl ?_ | refine Mx.none ?_ | exact Mx.refl | exact Mx.mix
      refine RL.or ?_
      refine RL.p T ?_
      refine RL.join (fr1 := ?_) 3 94 false [95, 96, 97] (fun hs35 hj => ?_) ?_ ?_
      rotate_left
      ·have hs35j := hs35
       try simp only [decide_eq_true_eq, Bool.not_eq_true', decide_eq_false_iff_not, Bool.not_eq_false', Int.not_lt, Int.not_le, Int.toNat_natCast, Bool.and_eq_true, Bool.or_eq_true, Bool.and_eq_false_iff, Bool.or_eq_false_iff] at hs35
       refine RL.p T ?_
       refine RL.lv1 T ?_
       refine RL.p T ?_
       exact hj
      ·repeat first | with_reducible exact Mx.refl | with_reducible exact Mx.mix | refine Mx.put rfl ?_ | refine Mx.upd rfl ?_ | refine Mx.updl rfl ?_ | refine Mx.fin rfl ?_ | refine Mx.inner rfl ?_ | refine Mx.none ?_ | exact Mx.refl | exact Mx.mix
      refine RL.or ?_
      refine RL.nil _ _ _ _ ?_
      refine hK40 _ _ _ ?_
      refine SW.cs (fun hc12 => ?_) (fun hc12 => ?_)
      ·skip
       refine SW.seq_k fun K41 hK41 => ?_
       refine SW.region _ _ _ _ ?_
       refine RL.p T ?_
       refine RL.nil _ _ _ _ ?_
       refine hK41 _ _ _ ?_
       refine SW.ret ?_
       try clear e
       refine retQ.rr (H) ?_
       clear hK41 K41 hK40 K40 hK39 K39 hK37 K37 hK36 K36 hK28 K28 hK20 K20 hK9 K9 hK8 K8 hK7 K7 hK5 K5 hK4 K4 hK3 K3 hK2 K2 hK1 K1 hK0 K0
       subst hn
       refine ⟨intE ?_, rfl⟩
       first
         | exact (chkF_2 (f := f) (fun h => by have := code_kind h.1; unfold RestF at h; grind)).symm
         | exact (chkF_0 (f := f) (by unfold RestF; have := code_kind hc0; grind)).symm
      ·skip
       refine SW.skip ?_
       refine hK39 _ _ _ ?_
       refine SW.seq_k fun K42 hK42 => ?_
       refine SW.region _ _ _ _ ?_
       refine RL.p T ?_
       refine RL.nil _ _ _ _ ?_
       refine hK42 _ _ _ ?_
       refine SW.ret ?_
       try clear e
       refine retQ.rr (H) ?_
       clear hK42 K42 hK40 K40 hK39 K39 hK37 K37 hK36 K36 hK28 K28 hK20 K20 hK9 K9 hK8 K8 hK7 K7 hK5 K5 hK4 K4 hK3 K3 hK2 K2 hK1 K1 hK0 K0
       subst hn
       refine ⟨intE ?_, rfl⟩
       first
         | exact (chkF_2 (f := f) (fun h => by have := code_kind h.1; unfold RestF at h; grind)).symm
         | exact (chkF_0 (f := f) (by unfold RestF; have := code_kind hc0; grind)).symm
end Go.Proofs.Ytjemdjjmpgjieaa.M
