import Derived.Test.YtnlifdnfkmlfbaaFB
set_option linter.unusedVariables false
set_option linter.unusedSimpArgs false
namespace Go.Proofs.Ytnlifdnfkmlfbaa.M
open Go Go.Sep Go.Proofs
set_option maxRecDepth 10000
set_option maxHeartbeats 2000000
theorem off_facts {x y e : Int} (he : 1 ≤ e) (he2 : e ≤ 6) (h3 : e ≠ 3) (h5 : e ≠ 5) (ha : 0 ≤ x) (ha2 : x ≤ 255) (hb : 0 ≤ y) (hb2 : y ≤ 255) : 0 ≤ tec x y e ∧ tec x y e ≤ x ∧ 0 ≤ rec_ x y e ∧ rec_ x y e ≤ 255 := by
  have h := good_tec (e := e) ha (by omega) hb hb2
  refine ⟨h.1, ?_, h.2.2.1, h.2.2.2⟩
  unfold tec
  repeat' split
  all_goals omega
theorem tec3 {x y : Int} (h : x ≤ 255) : tec x y 3 = x + 8 := by unfold tec; rw [if_neg (by omega)]; simp
theorem rec3 {x y : Int} (h : x ≤ 255) : rec_ x y 3 = y := by unfold rec_; rw [if_neg (by omega)]; simp
theorem quo8 {x : Int} (h : 0 ≤ x) (h2 : x ≤ 255) : ∃ q : Nat, IntKind.i64.wrap ((255 - x).tdiv 8) = (q : Int) ∧ 8 * (q : Int) ≤ 255 - x ∧ 255 - x < 8 * (q : Int) + 8 := by
  rw [Int.tdiv_eq_ediv_of_nonneg (by omega)]
  refine ⟨((255 - x) / 8).toNat, ?_, by omega, by omega⟩
  rw [wrap_in (by show (-9223372036854775808 : Int) ≤ _; omega) (by show _ ≤ (9223372036854775807 : Int); omega)]
  omega
theorem off_ok {w0 : World} {H : List Chunk} (a b : Int) (hoff : a ≤ 255) (ha : 0 ≤ a) (ha2 : a ≤ 263) (hb : 0 ≤ b) (hb2 : b ≤ 255) (sa : Option Addr) (n c : Nat) (es : List Int) (hR : ∀ H, Rd w0 H sa n c 1 (es.map (.int .i64))) (hn : n = es.length) (hs : n ≤ 2000) : SC Try.prog w0 6 #[sv a b, .slice sa n c] H (fun v H' => v = .bool true ∧ H' = H) := by
  refine SC.enter Try.func6 rfl (Nat.le_of_ble_eq_true rfl) ?_
  refine SW.seq_k ?_
  intro K0 hK0
  refine SW.region _ _ _ _ ?_
  refine RL.step (Gd.none rfl) rfl rfl ?_
  refine NV.box rfl (by exact (rfl : _ = [_, _, _])) ?_
  intro b2_0
  refine RL.step (Gd.none rfl) rfl rfl ?_
  refine NV.pure T (by conv => lhs; whnf; arg 1; whnf) ?_
  refine RL.nil _ _ _ _ ?_
  refine hK0 _ _ _ ?_
  refine SW.seq_k ?_
  intro K1 hK1
  refine SW.seq_k ?_
  intro K2 hK2
  refine SW.region _ _ _ _ ?_
  refine RL.step (Gd.none rfl) rfl rfl ?_
  refine NV.call rfl rfl rfl fun8 rfl rfl (alive) ?_
  rintro _ _ ⟨rfl, rfl⟩
  refine RL.step (Gd.none rfl) rfl rfl ?_
  refine NV.pure T (by conv => lhs; whnf; arg 1; whnf) ?_
  refine RL.nil _ _ _ _ ?_
  refine hK2 _ _ _ ?_
  refine SW.cond_f rfl ?_
  refine SW.skip ?_
  refine hK1 _ _ _ ?_
  refine SW.seq_k ?_
  intro K3 hK3
  refine SW.region _ _ _ _ ?_
  refine RL.step (Gd.none rfl) rfl rfl ?_
  first
    | refine NV.load_var1 T rfl rfl rfl rfl (by repeat first | exact At.head _ _ | apply At.tail) rfl ?_
    | refine NV.load_varN T rfl rfl rfl rfl rfl (by repeat first | exact At.head _ _ | apply At.tail) (by exact (rfl : _ = [_, _, _])) rfl ?_
    | refine NV.load_elem T rfl rfl rfl rfl (hR _) (by first | exact map_get _ _ (by omega) | assumption) ?_
  refine RL.step (Gd.none rfl) rfl rfl ?_
  refine NV.alloc T rfl rfl rfl (by exact (rfl : _ = [_, _, _])) ?_
  intro b5_1
  refine RL.step (Gd.none rfl) rfl rfl ?_
  first
    | refine NV.store_var1 T rfl rfl rfl rfl (by conv => lhs; whnf) rfl (by repeat first | exact At.head _ _ | apply At.tail) rfl (by exact (rfl : _ = [_, _, _])) ?_
    | refine NV.store_var T rfl rfl rfl (by exact (rfl : _ = [_, _, _])) rfl rfl (by repeat first | exact At.head _ _ | apply At.tail) (Nat.le_of_ble_eq_true rfl) (by exact (rfl : _ = [_, _, _])) ?_
    | refine NV.store_elem T rfl rfl rfl rfl (by conv => lhs; whnf) rfl (by repeat first | exact At.head _ _ | apply At.tail) (by omega) ?_
  refine RL.nil _ _ _ _ ?_
  refine hK3 _ _ _ ?_
  refine SW.seq_k ?_
  intro K4 hK4
  refine SW.seq_k ?_
  intro K5 hK5
  refine SW.region _ _ _ _ ?_
  refine RL.step (Gd.none rfl) rfl rfl ?_
  refine NV.pure T (by conv => lhs; whnf; arg 1; whnf) ?_
  refine RL.step (Gd.none rfl) rfl rfl ?_
  refine NV.pure T (by conv => lhs; whnf; arg 1; whnf) ?_
  refine RL.step (Gd.none rfl) rfl rfl ?_
  refine NV.pure T (by conv => lhs; whnf; arg 1; whnf) ?_
  refine RL.step (Gd.none rfl) rfl rfl ?_
  refine NV.pure T (by conv => lhs; whnf; arg 1; whnf) ?_
  refine RL.split 18 rfl (fun hs0 => ?_) (fun hs0 => ?_)
  · try simp only [decide_eq_true_eq, decide_eq_false_iff_not, Bool.not_eq_true', Bool.not_eq_false', Int.not_lt, Int.not_le, Int.toNat_natCast] at hs0
    exfalso; first | omega | (simp at hs1; done)
  · try simp only [decide_eq_true_eq, decide_eq_false_iff_not, Bool.not_eq_true', Bool.not_eq_false', Int.not_lt, Int.not_le, Int.toNat_natCast] at hs0
    first
      | (exfalso; first | omega | contradiction)
      | (
        refine RL.step (Gd.yes rfl rfl) rfl rfl ?_
        first
          | refine NV.load_var1 T rfl rfl rfl rfl (by repeat first | exact At.head _ _ | apply At.tail) rfl ?_
          | refine NV.load_varN T rfl rfl rfl rfl rfl (by repeat first | exact At.head _ _ | apply At.tail) (by exact (rfl : _ = [_, _, _])) rfl ?_
          | refine NV.load_elem T rfl rfl rfl rfl (hR _) (by first | exact map_get _ _ (by omega) | assumption) ?_
        refine RL.step (Gd.yes rfl rfl) rfl rfl ?_
        refine NV.call rfl rfl rfl fun13 rfl rfl (check_ok a b ha ha2 hb hb2) ?_
        rintro _ _ ⟨rfl, rfl⟩
        refine RL.step (Gd.yes rfl rfl) rfl rfl ?_
        refine NV.pure T (by conv => lhs; whnf; arg 1; whnf) ?_
        refine RL.step (Gd.none rfl) rfl rfl ?_
        refine NV.pure T (by conv => lhs; whnf; arg 1; whnf) ?_
        refine RL.step (Gd.none rfl) rfl rfl ?_
        refine NV.pure T (by conv => lhs; whnf; arg 1; whnf) ?_
        refine RL.split 23 rfl (fun hs1 => ?_) (fun hs1 => ?_)
        · try simp only [decide_eq_true_eq, decide_eq_false_iff_not, Bool.not_eq_true', Bool.not_eq_false', Int.not_lt, Int.not_le, Int.toNat_natCast] at hs1
          exfalso; first | omega | (simp at hs1; done)
        · try simp only [decide_eq_true_eq, decide_eq_false_iff_not, Bool.not_eq_true', Bool.not_eq_false', Int.not_lt, Int.not_le, Int.toNat_natCast] at hs1
          first
            | (exfalso; first | omega | contradiction)
            | (
              refine RL.step (Gd.yes rfl rfl) rfl rfl ?_
              refine NV.pure T (by conv => lhs; whnf; arg 1; whnf) ?_
              refine RL.step (Gd.yes rfl rfl) rfl rfl ?_
              first
                | refine NV.load_var1 T rfl rfl rfl rfl (by repeat first | exact At.head _ _ | apply At.tail) rfl ?_
                | refine NV.load_varN T rfl rfl rfl rfl rfl (by repeat first | exact At.head _ _ | apply At.tail) (by exact (rfl : _ = [_])) rfl ?_
                | refine NV.load_elem T rfl rfl rfl rfl (hR _) (by first | exact map_get _ _ (by omega) | assumption) ?_
              refine RL.step (Gd.none rfl) rfl rfl ?_
              refine NV.pure T (by conv => lhs; whnf; arg 1; whnf) ?_
              refine RL.nil _ _ _ _ ?_
              refine hK5 _ _ _ ?_
              refine SW.cond rfl (fun hc1 => ?_) (fun hc1 => ?_)
              · try simp only [decide_eq_true_eq, decide_eq_false_iff_not, Bool.not_eq_true', Bool.not_eq_false', Int.not_lt, Int.not_le, Int.toNat_natCast] at hc1
                exfalso; first | omega | (simp at hs1; done)
              · try simp only [decide_eq_true_eq, decide_eq_false_iff_not, Bool.not_eq_true', Bool.not_eq_false', Int.not_lt, Int.not_le, Int.toNat_natCast] at hc1
                first
                  | (exfalso; first | omega | contradiction)
                  | (
                    refine SW.skip ?_
                    refine hK4 _ _ _ ?_
                    refine SW.seq_k ?_
                    intro K6 hK6
                    refine SW.region _ _ _ _ ?_
                    refine RL.step (Gd.none rfl) rfl rfl ?_
                    first
                      | refine NV.load_var1 T rfl rfl rfl rfl (by repeat first | exact At.head _ _ | apply At.tail) rfl ?_
                      | refine NV.load_varN T rfl rfl rfl rfl rfl (by repeat first | exact At.head _ _ | apply At.tail) (by exact (rfl : _ = [_, _, _])) rfl ?_
                      | refine NV.load_elem T rfl rfl rfl rfl (hR _) (by first | exact map_get _ _ (by omega) | assumption) ?_
                    refine RL.step (Gd.none rfl) rfl rfl ?_
                    refine NV.alloc T rfl rfl rfl (by exact (rfl : _ = [_, _, _])) ?_
                    intro b6_2
                    refine RL.step (Gd.none rfl) rfl rfl ?_
                    first
                      | refine NV.store_var1 T rfl rfl rfl rfl (by conv => lhs; whnf) rfl (by repeat first | exact At.head _ _ | apply At.tail) rfl (by exact (rfl : _ = [_, _, _])) ?_
                      | refine NV.store_var T rfl rfl rfl (by exact (rfl : _ = [_, _, _])) rfl rfl (by repeat first | exact At.head _ _ | apply At.tail) (Nat.le_of_ble_eq_true rfl) (by exact (rfl : _ = [_, _, _])) ?_
                      | refine NV.store_elem T rfl rfl rfl rfl (by conv => lhs; whnf) rfl (by repeat first | exact At.head _ _ | apply At.tail) (by omega) ?_
                    refine RL.nil _ _ _ _ ?_
                    refine hK6 _ _ _ ?_
                    refine SW.seq_k ?_
                    intro K7 hK7
                    refine SW.region _ _ _ _ ?_
                    refine RL.step (Gd.none rfl) rfl rfl ?_
                    refine NV.pure T (by conv => lhs; whnf; arg 1; whnf) ?_
                    refine RL.nil _ _ _ _ ?_
                    refine hK7 _ _ _ ?_
                    refine SW.seq_k ?_
                    intro K8 hK8
                    refine SW.seq_k ?_
                    intro K9 hK9
                    refine SW.region _ _ _ _ ?_
                    refine RL.step (Gd.none rfl) rfl rfl ?_
                    refine NV.pure T (by conv => lhs; whnf; arg 1; whnf) ?_
                    refine RL.step (Gd.none rfl) rfl rfl ?_
                    refine NV.pure T (by conv => lhs; whnf; arg 1; whnf) ?_
                    refine RL.step (Gd.none rfl) rfl rfl ?_
                    refine NV.pure T (by conv => lhs; whnf; arg 1; whnf) ?_
                    refine RL.nil _ _ _ _ ?_
                    refine hK9 _ _ _ ?_
                    refine SW.block ?_
                    refine SW.loop (fun m fr ds HH => ∃ (frU : Fr) (k : Nat) (cnt x y : Int), m = n - k ∧ (k ≤ n ∧ 0 ≤ cnt ∧ cnt ≤ k ∧ 0 ≤ x ∧ x ≤ a ∧ 0 ≤ y ∧ y ≤ 255) ∧ fr = (upd (upd (upd (upd (upd (upd frU 5 (.pointer (some ⟨b5_1, 0, none⟩))) 6 (.pointer (some ⟨b6_2, 0, none⟩))) 7 (.int .i64 cnt)) 28 (.slice sa n c)) 29 (.int .i64 n)) 30 (.int .i64 k)) ∧ ds = [] ∧ HH = (.var b6_2 25 [.int .i64 x, .int .i64 y, .bool (decide (255 < x))] :: .var b5_1 25 [.int .i64 a, .int .i64 b, .bool (decide (255 < a))] :: .var b2_0 23 [.int .i64 a, .int .i64 b, .bool (decide (255 < a))] :: H)) (n := n - 0) ?_ ?_
                    · exact ⟨_, 0, 0, a, b, rfl, ⟨Nat.zero_le _, by omega, by omega, ha, by omega, hb, hb2⟩, ((@upd_eta _ 5 _ rfl).trans ((@upd_eta _ 6 _ rfl).trans ((@upd_eta _ 7 _ rfl).trans ((@upd_eta _ 28 _ rfl).trans ((@upd_eta _ 29 _ rfl).trans (@upd_eta _ 30 _ rfl)))))), rfl, rfl⟩
                    · rintro m fr ds HH ⟨frU, k, cnt, x, y, rfl, ⟨hk, hc1, hc2, hx1, hx2, hy1, hy2⟩, rfl, rfl, rfl⟩
                      refine SW.seq_k ?_
                      intro K10 hK10
                      refine SW.region _ _ _ _ ?_
                      refine RL.step (Gd.none rfl) rfl rfl ?_
                      refine NV.pure T (by conv => lhs; whnf; arg 1; whnf) ?_
                      refine RL.nil _ _ _ _ ?_
                      refine hK10 _ _ _ ?_
                      refine SW.seq_k ?_
                      intro K11 hK11
                      refine SW.cond rfl (fun hc2 => ?_) (fun hc2 => ?_)
                      · try simp only [decide_eq_true_eq, decide_eq_false_iff_not, Bool.not_eq_true', Bool.not_eq_false', Int.not_lt, Int.not_le, Int.toNat_natCast] at hc2
                        first
                          | (exfalso; first | omega | contradiction)
                          | (
                            refine SW.skip ?_
                            refine hK11 _ _ _ ?_
                            refine SW.seq_k ?_
                            intro K12 hK12
                            refine SW.block ?_
                            refine SW.seq_k ?_
                            intro K13 hK13
                            refine SW.region _ _ _ _ ?_
                            refine RL.step (Gd.none rfl) rfl rfl ?_
                            first
                              | refine NV.index_array T rfl rfl rfl rfl rfl (by omega) (by omega) ?_
                              | refine NV.index_slice T rfl rfl rfl rfl rfl (hR _) (by omega) (by omega) ?_
                            refine RL.step (Gd.none rfl) rfl rfl ?_
                            first
                              | refine NV.load_var1 T rfl rfl rfl rfl (by repeat first | exact At.head _ _ | apply At.tail) rfl ?_
                              | refine NV.load_varN T rfl rfl rfl rfl rfl (by repeat first | exact At.head _ _ | apply At.tail) (by exact (rfl : _ = [_])) rfl ?_
                              | refine NV.load_elem T rfl rfl rfl rfl (hR _) (by first | exact map_get _ _ (by omega) | assumption) ?_
                            refine RL.step (Gd.none rfl) rfl rfl ?_
                            refine NV.pure T (by conv => lhs; whnf; arg 1; whnf) ?_
                            refine RL.nil _ _ _ _ ?_
                            refine hK13 _ _ _ ?_
                            refine SW.seq_k ?_
                            intro K14 hK14
                            refine SW.seq_k ?_
                            intro K15 hK15
                            refine SW.region _ _ _ _ ?_
                            refine RL.step (Gd.none rfl) rfl rfl ?_
                            refine NV.pure T (by conv => lhs; whnf; arg 1; whnf) ?_
                            refine RL.step (Gd.none rfl) rfl rfl ?_
                            refine NV.pure T (by conv => lhs; whnf; arg 1; whnf) ?_
                            refine RL.step (Gd.none rfl) rfl rfl ?_
                            refine NV.pure T (by conv => lhs; whnf; arg 1; whnf) ?_
                            refine RL.split 36 rfl (fun hs2 => ?_) (fun hs2 => ?_)
                            · try simp only [decide_eq_true_eq, decide_eq_false_iff_not, Bool.not_eq_true', Bool.not_eq_false', Int.not_lt, Int.not_le, Int.toNat_natCast] at hs2
                              first
                                | (exfalso; first | omega | contradiction)
                                | (
                                  refine RL.guard_no rfl rfl rfl ?_
                                  refine RL.guard_no rfl rfl rfl ?_
                                  refine RL.step (Gd.none rfl) rfl rfl ?_
                                  refine NV.pure T (by conv => lhs; whnf; arg 1; whnf) ?_
                                  refine RL.step (Gd.none rfl) rfl rfl ?_
                                  refine NV.pure T (by conv => lhs; whnf; arg 1; whnf) ?_
                                  refine RL.guard_no rfl rfl rfl ?_
                                  refine RL.guard_no rfl rfl rfl ?_
                                  refine RL.step (Gd.none rfl) rfl rfl ?_
                                  refine NV.pure T (by conv => lhs; whnf; arg 1; whnf) ?_
                                  refine RL.step (Gd.none rfl) rfl rfl ?_
                                  refine NV.pure T (by conv => lhs; whnf; arg 1; whnf) ?_
                                  refine RL.guard_no rfl rfl rfl ?_
                                  refine RL.guard_no rfl rfl rfl ?_
                                  refine RL.step (Gd.none rfl) rfl rfl ?_
                                  refine NV.pure T (by conv => lhs; whnf; arg 1; whnf) ?_
                                  refine RL.nil _ _ _ _ ?_
                                  refine hK15 _ _ _ ?_
                                  refine SW.cond_t rfl ?_
                                  refine SW.exit ?_
                                  refine hK12 _ _ _ ?_
                                  first
                                    | refine SW.drop (x := .var b10_3 _ _) ?_
                                    | skip
                                  refine SW.region _ _ _ _ ?_
                                  refine RL.step (Gd.none rfl) rfl rfl ?_
                                  first
                                    | refine NV.arith rfl rfl rfl rfl (by omega) (by omega) ?_
                                    | refine NV.pure T (by conv => lhs; whnf; arg 1; whnf) ?_
                                  refine RL.step (Gd.none rfl) rfl rfl ?_
                                  refine NV.pure T (by conv => lhs; whnf; arg 1; whnf) ?_
                                  refine RL.nil _ _ _ _ ?_
                                  exact ⟨n - (k + 1), (by omega), _, k + 1, _, _, _, (by rfl), (by refine ⟨?_, ?_, ?_, ?_, ?_, ?_, ?_⟩ <;> omega), ((@upd_eta _ 5 _ rfl).trans ((@upd_eta _ 6 _ rfl).trans ((@upd_eta _ 7 _ rfl).trans ((@upd_eta _ 28 _ rfl).trans ((@upd_eta _ 29 _ rfl).trans (@upd_eta _ 30 _ rfl)))))), rfl, rfl⟩
                                  )
                            · try simp only [decide_eq_true_eq, decide_eq_false_iff_not, Bool.not_eq_true', Bool.not_eq_false', Int.not_lt, Int.not_le, Int.toNat_natCast] at hs2
                              first
                                | (exfalso; first | omega | contradiction)
                                | (
                                  refine RL.step (Gd.yes rfl rfl) rfl rfl ?_
                                  refine NV.pure T (by conv => lhs; whnf; arg 1; whnf) ?_
                                  refine RL.step (Gd.yes rfl rfl) rfl rfl ?_
                                  refine NV.pure T (by conv => lhs; whnf; arg 1; whnf) ?_
                                  refine RL.step (Gd.none rfl) rfl rfl ?_
                                  refine NV.pure T (by conv => lhs; whnf; arg 1; whnf) ?_
                                  refine RL.step (Gd.none rfl) rfl rfl ?_
                                  refine NV.pure T (by conv => lhs; whnf; arg 1; whnf) ?_
                                  refine RL.split 40 rfl (fun hs3 => ?_) (fun hs3 => ?_)
                                  · try simp only [decide_eq_true_eq, decide_eq_false_iff_not, Bool.not_eq_true', Bool.not_eq_false', Int.not_lt, Int.not_le, Int.toNat_natCast] at hs3
                                    first
                                      | (exfalso; first | omega | contradiction)
                                      | (
                                        refine RL.guard_no rfl rfl rfl ?_
                                        refine RL.guard_no rfl rfl rfl ?_
                                        refine RL.step (Gd.none rfl) rfl rfl ?_
                                        refine NV.pure T (by conv => lhs; whnf; arg 1; whnf) ?_
                                        refine RL.step (Gd.none rfl) rfl rfl ?_
                                        refine NV.pure T (by conv => lhs; whnf; arg 1; whnf) ?_
                                        refine RL.guard_no rfl rfl rfl ?_
                                        refine RL.guard_no rfl rfl rfl ?_
                                        refine RL.step (Gd.none rfl) rfl rfl ?_
                                        refine NV.pure T (by conv => lhs; whnf; arg 1; whnf) ?_
                                        refine RL.nil _ _ _ _ ?_
                                        refine hK15 _ _ _ ?_
                                        refine SW.cond_t rfl ?_
                                        refine SW.exit ?_
                                        refine hK12 _ _ _ ?_
                                        first
                                          | refine SW.drop (x := .var b10_3 _ _) ?_
                                          | skip
                                        refine SW.region _ _ _ _ ?_
                                        refine RL.step (Gd.none rfl) rfl rfl ?_
                                        first
                                          | refine NV.arith rfl rfl rfl rfl (by omega) (by omega) ?_
                                          | refine NV.pure T (by conv => lhs; whnf; arg 1; whnf) ?_
                                        refine RL.step (Gd.none rfl) rfl rfl ?_
                                        refine NV.pure T (by conv => lhs; whnf; arg 1; whnf) ?_
                                        refine RL.nil _ _ _ _ ?_
                                        exact ⟨n - (k + 1), (by omega), _, k + 1, _, _, _, (by rfl), (by refine ⟨?_, ?_, ?_, ?_, ?_, ?_, ?_⟩ <;> omega), ((@upd_eta _ 5 _ rfl).trans ((@upd_eta _ 6 _ rfl).trans ((@upd_eta _ 7 _ rfl).trans ((@upd_eta _ 28 _ rfl).trans ((@upd_eta _ 29 _ rfl).trans (@upd_eta _ 30 _ rfl)))))), rfl, rfl⟩
                                        )
                                  · try simp only [decide_eq_true_eq, decide_eq_false_iff_not, Bool.not_eq_true', Bool.not_eq_false', Int.not_lt, Int.not_le, Int.toNat_natCast] at hs3
                                    first
                                      | (exfalso; first | omega | contradiction)
                                      | (
                                        refine RL.step (Gd.yes rfl rfl) rfl rfl ?_
                                        refine NV.pure T (by conv => lhs; whnf; arg 1; whnf) ?_
                                        refine RL.step (Gd.yes rfl rfl) rfl rfl ?_
                                        refine NV.pure T (by conv => lhs; whnf; arg 1; whnf) ?_
                                        refine RL.step (Gd.none rfl) rfl rfl ?_
                                        refine NV.pure T (by conv => lhs; whnf; arg 1; whnf) ?_
                                        refine RL.step (Gd.none rfl) rfl rfl ?_
                                        refine NV.pure T (by conv => lhs; whnf; arg 1; whnf) ?_
                                        refine RL.split 44 rfl (fun hs4 => ?_) (fun hs4 => ?_)
                                        · try simp only [decide_eq_true_eq, decide_eq_false_iff_not, Bool.not_eq_true', Bool.not_eq_false', Int.not_lt, Int.not_le, Int.toNat_natCast] at hs4
                                          first
                                            | (exfalso; first | omega | contradiction)
                                            | (
                                              refine RL.guard_no rfl rfl rfl ?_
                                              refine RL.guard_no rfl rfl rfl ?_
                                              refine RL.step (Gd.none rfl) rfl rfl ?_
                                              refine NV.pure T (by conv => lhs; whnf; arg 1; whnf) ?_
                                              refine RL.nil _ _ _ _ ?_
                                              refine hK15 _ _ _ ?_
                                              refine SW.cond_t rfl ?_
                                              refine SW.exit ?_
                                              refine hK12 _ _ _ ?_
                                              first
                                                | refine SW.drop (x := .var b10_3 _ _) ?_
                                                | skip
                                              refine SW.region _ _ _ _ ?_
                                              refine RL.step (Gd.none rfl) rfl rfl ?_
                                              first
                                                | refine NV.arith rfl rfl rfl rfl (by omega) (by omega) ?_
                                                | refine NV.pure T (by conv => lhs; whnf; arg 1; whnf) ?_
                                              refine RL.step (Gd.none rfl) rfl rfl ?_
                                              refine NV.pure T (by conv => lhs; whnf; arg 1; whnf) ?_
                                              refine RL.nil _ _ _ _ ?_
                                              exact ⟨n - (k + 1), (by omega), _, k + 1, _, _, _, (by rfl), (by refine ⟨?_, ?_, ?_, ?_, ?_, ?_, ?_⟩ <;> omega), ((@upd_eta _ 5 _ rfl).trans ((@upd_eta _ 6 _ rfl).trans ((@upd_eta _ 7 _ rfl).trans ((@upd_eta _ 28 _ rfl).trans ((@upd_eta _ 29 _ rfl).trans (@upd_eta _ 30 _ rfl)))))), rfl, rfl⟩
                                              )
                                        · try simp only [decide_eq_true_eq, decide_eq_false_iff_not, Bool.not_eq_true', Bool.not_eq_false', Int.not_lt, Int.not_le, Int.toNat_natCast] at hs4
                                          first
                                            | (exfalso; first | omega | contradiction)
                                            | (
                                              refine RL.step (Gd.yes rfl rfl) rfl rfl ?_
                                              refine NV.pure T (by conv => lhs; whnf; arg 1; whnf) ?_
                                              refine RL.step (Gd.yes rfl rfl) rfl rfl ?_
                                              refine NV.pure T (by conv => lhs; whnf; arg 1; whnf) ?_
                                              refine RL.step (Gd.none rfl) rfl rfl ?_
                                              refine NV.pure T (by conv => lhs; whnf; arg 1; whnf) ?_
                                              refine RL.nil _ _ _ _ ?_
                                              refine hK15 _ _ _ ?_
                                              refine SW.cond rfl (fun hc3 => ?_) (fun hc3 => ?_)
                                              · try simp only [decide_eq_true_eq, decide_eq_false_iff_not, Bool.not_eq_true', Bool.not_eq_false', Int.not_lt, Int.not_le, Int.toNat_natCast] at hc3
                                                first
                                                  | (exfalso; first | omega | contradiction)
                                                  | (
                                                    refine SW.exit ?_
                                                    refine hK12 _ _ _ ?_
                                                    first
                                                      | refine SW.drop (x := .var b10_3 _ _) ?_
                                                      | skip
                                                    refine SW.region _ _ _ _ ?_
                                                    refine RL.step (Gd.none rfl) rfl rfl ?_
                                                    first
                                                      | refine NV.arith rfl rfl rfl rfl (by omega) (by omega) ?_
                                                      | refine NV.pure T (by conv => lhs; whnf; arg 1; whnf) ?_
                                                    refine RL.step (Gd.none rfl) rfl rfl ?_
                                                    refine NV.pure T (by conv => lhs; whnf; arg 1; whnf) ?_
                                                    refine RL.nil _ _ _ _ ?_
                                                    exact ⟨n - (k + 1), (by omega), _, k + 1, _, _, _, (by rfl), (by refine ⟨?_, ?_, ?_, ?_, ?_, ?_, ?_⟩ <;> omega), ((@upd_eta _ 5 _ rfl).trans ((@upd_eta _ 6 _ rfl).trans ((@upd_eta _ 7 _ rfl).trans ((@upd_eta _ 28 _ rfl).trans ((@upd_eta _ 29 _ rfl).trans (@upd_eta _ 30 _ rfl)))))), rfl, rfl⟩
                                                    )
                                              · try simp only [decide_eq_true_eq, decide_eq_false_iff_not, Bool.not_eq_true', Bool.not_eq_false', Int.not_lt, Int.not_le, Int.toNat_natCast] at hc3
                                                first
                                                  | (exfalso; first | omega | contradiction)
                                                  | (
                                                    refine SW.skip ?_
                                                    refine hK14 _ _ _ ?_
                                                    refine SW.seq_k ?_
                                                    intro K16 hK16
                                                    refine SW.region _ _ _ _ ?_
                                                    refine RL.step (Gd.none rfl) rfl rfl ?_
                                                    refine NV.pure T (by conv => lhs; whnf; arg 1; whnf) ?_
                                                    refine RL.step (Gd.none rfl) rfl rfl ?_
                                                    first
                                                      | refine NV.arith rfl rfl rfl rfl (by omega) (by omega) ?_
                                                      | refine NV.pure T (by conv => lhs; whnf; arg 1; whnf) ?_
                                                    refine RL.step (Gd.none rfl) rfl rfl ?_
                                                    refine NV.pure T (by conv => lhs; whnf; arg 1; whnf) ?_
                                                    refine RL.nil _ _ _ _ ?_
                                                    refine hK16 _ _ _ ?_
                                                    refine SW.seq_k ?_
                                                    intro K17 hK17
                                                    refine SW.region _ _ _ _ ?_
                                                    refine RL.step (Gd.none rfl) rfl rfl ?_
                                                    first
                                                      | refine NV.load_var1 T rfl rfl rfl rfl (by repeat first | exact At.head _ _ | apply At.tail) rfl ?_
                                                      | refine NV.load_varN T rfl rfl rfl rfl rfl (by repeat first | exact At.head _ _ | apply At.tail) (by exact (rfl : _ = [_, _, _])) rfl ?_
                                                      | refine NV.load_elem T rfl rfl rfl rfl (hR _) (by first | exact map_get _ _ (by omega) | assumption) ?_
                                                    refine RL.step (Gd.none rfl) rfl rfl ?_
                                                    refine NV.pure T (by conv => lhs; whnf; arg 1; whnf) ?_
                                                    refine RL.step (Gd.none rfl) rfl rfl ?_
                                                    refine NV.call rfl rfl rfl fun11 rfl rfl (next_ok x y (es.getD k 0) (by omega) (by omega) hx1 (by omega) hy1 hy2) ?_
                                                    rintro _ _ ⟨rfl, rfl⟩; have hf := off_facts (x := x) (y := y) (e := es.getD k 0) (by omega) (by omega) (by omega) (by omega) hx1 (by omega) hy1 hy2; revert hf; generalize tec x y (es.getD k 0) = x2; generalize rec_ x y (es.getD k 0) = y2; rintro ⟨f1, f2, f3, f4⟩
                                                    refine RL.step (Gd.none rfl) rfl rfl ?_
                                                    refine NV.pure T (by conv => lhs; whnf; arg 1; whnf) ?_
                                                    refine RL.step (Gd.none rfl) rfl rfl ?_
                                                    refine NV.pure T (by conv => lhs; whnf; arg 1; whnf) ?_
                                                    refine RL.step (Gd.none rfl) rfl rfl ?_
                                                    refine NV.pure T (by conv => lhs; whnf; arg 1; whnf) ?_
                                                    refine RL.step (Gd.none rfl) rfl rfl ?_
                                                    refine NV.alloc T rfl rfl rfl (by exact (rfl : _ = [_, _, _])) ?_
                                                    intro b10_3
                                                    refine RL.step (Gd.none rfl) rfl rfl ?_
                                                    first
                                                      | refine NV.store_var1 T rfl rfl rfl rfl (by conv => lhs; whnf) rfl (by repeat first | exact At.head _ _ | apply At.tail) rfl (by exact (rfl : _ = [_, _, _])) ?_
                                                      | refine NV.store_var T rfl rfl rfl (by exact (rfl : _ = [_, _, _])) rfl rfl (by repeat first | exact At.head _ _ | apply At.tail) (Nat.le_of_ble_eq_true rfl) (by exact (rfl : _ = [_, _, _])) ?_
                                                      | refine NV.store_elem T rfl rfl rfl rfl (by conv => lhs; whnf) rfl (by repeat first | exact At.head _ _ | apply At.tail) (by omega) ?_
                                                    refine RL.step (Gd.none rfl) rfl rfl ?_
                                                    refine NV.pure T (by conv => lhs; whnf; arg 1; whnf) ?_
                                                    refine RL.nil _ _ _ _ ?_
                                                    refine hK17 _ _ _ ?_
                                                    refine SW.seq_k ?_
                                                    intro K18 hK18
                                                    refine SW.seq_k ?_
                                                    intro K19 hK19
                                                    refine SW.region _ _ _ _ ?_
                                                    refine RL.step (Gd.none rfl) rfl rfl ?_
                                                    refine NV.pure T (by conv => lhs; whnf; arg 1; whnf) ?_
                                                    refine RL.step (Gd.none rfl) rfl rfl ?_
                                                    refine NV.pure T (by conv => lhs; whnf; arg 1; whnf) ?_
                                                    refine RL.step (Gd.none rfl) rfl rfl ?_
                                                    refine NV.pure T (by conv => lhs; whnf; arg 1; whnf) ?_
                                                    refine RL.split 58 rfl (fun hs5 => ?_) (fun hs5 => ?_)
                                                    · try simp only [decide_eq_true_eq, decide_eq_false_iff_not, Bool.not_eq_true', Bool.not_eq_false', Int.not_lt, Int.not_le, Int.toNat_natCast] at hs5
                                                      first
                                                        | (exfalso; first | omega | contradiction)
                                                        | (
                                                          refine RL.guard_no rfl rfl rfl ?_
                                                          refine RL.guard_no rfl rfl rfl ?_
                                                          refine RL.step (Gd.none rfl) rfl rfl ?_
                                                          refine NV.pure T (by conv => lhs; whnf; arg 1; whnf) ?_
                                                          refine RL.step (Gd.none rfl) rfl rfl ?_
                                                          refine NV.pure T (by conv => lhs; whnf; arg 1; whnf) ?_
                                                          refine RL.guard_no rfl rfl rfl ?_
                                                          refine RL.guard_no rfl rfl rfl ?_
                                                          refine RL.guard_no rfl rfl rfl ?_
                                                          refine RL.guard_no rfl rfl rfl ?_
                                                          refine RL.guard_no rfl rfl rfl ?_
                                                          refine RL.step (Gd.none rfl) rfl rfl ?_
                                                          refine NV.pure T (by conv => lhs; whnf; arg 1; whnf) ?_
                                                          refine RL.nil _ _ _ _ ?_
                                                          refine hK19 _ _ _ ?_
                                                          refine SW.cond_t rfl ?_
                                                          refine SW.seq_k ?_
                                                          intro K20 hK20
                                                          refine SW.region _ _ _ _ ?_
                                                          refine RL.step (Gd.none rfl) rfl rfl ?_
                                                          refine NV.pure T (by conv => lhs; whnf; arg 1; whnf) ?_
                                                          refine RL.nil _ _ _ _ ?_
                                                          refine hK20 _ _ _ ?_
                                                          refine SW.ret ?_
                                                          refine retQ.ret (H' := H) (RVs.tmp (by conv => lhs; whnf) RVs.nil) (fun w hw => Sat.sub (by repeat first | exact List.Sublist.refl _ | apply List.Sublist.cons_cons | apply List.Sublist.cons) hw) ?_
                                                          clear hK20 K20 hK19 K19 hK18 K18 hK17 K17 hK16 K16 hK15 K15 hK14 K14 hK13 K13 hK12 K12 hK11 K11 hK10 K10 hK9 K9 hK8 K8 hK7 K7 hK6 K6 hK5 K5 hK4 K4 hK3 K3 hK2 K2 hK1 K1 hK0 K0
                                                          first | exact ⟨rfl, rfl⟩ | (refine ⟨bool1 ?_, rfl⟩; rw [decide_eq_true_eq]; omega)
                                                          )
                                                    · try simp only [decide_eq_true_eq, decide_eq_false_iff_not, Bool.not_eq_true', Bool.not_eq_false', Int.not_lt, Int.not_le, Int.toNat_natCast] at hs5
                                                      first
                                                        | (exfalso; first | omega | contradiction)
                                                        | (
                                                          refine RL.step (Gd.yes rfl rfl) rfl rfl ?_
                                                          refine NV.pure T (by conv => lhs; whnf; arg 1; whnf) ?_
                                                          refine RL.step (Gd.yes rfl rfl) rfl rfl ?_
                                                          first
                                                            | refine NV.load_var1 T rfl rfl rfl rfl (by repeat first | exact At.head _ _ | apply At.tail) rfl ?_
                                                            | refine NV.load_varN T rfl rfl rfl rfl rfl (by repeat first | exact At.head _ _ | apply At.tail) (by exact (rfl : _ = [_])) rfl ?_
                                                            | refine NV.load_elem T rfl rfl rfl rfl (hR _) (by first | exact map_get _ _ (by omega) | assumption) ?_
                                                          refine RL.step (Gd.none rfl) rfl rfl ?_
                                                          refine NV.pure T (by conv => lhs; whnf; arg 1; whnf) ?_
                                                          refine RL.step (Gd.none rfl) rfl rfl ?_
                                                          refine NV.pure T (by conv => lhs; whnf; arg 1; whnf) ?_
                                                          refine RL.split 62 rfl (fun hs6 => ?_) (fun hs6 => ?_)
                                                          · try simp only [decide_eq_true_eq, decide_eq_false_iff_not, Bool.not_eq_true', Bool.not_eq_false', Int.not_lt, Int.not_le, Int.toNat_natCast] at hs6
                                                            first
                                                              | (exfalso; first | omega | contradiction)
                                                              | (
                                                                refine RL.guard_no rfl rfl rfl ?_
                                                                refine RL.guard_no rfl rfl rfl ?_
                                                                refine RL.guard_no rfl rfl rfl ?_
                                                                refine RL.guard_no rfl rfl rfl ?_
                                                                refine RL.guard_no rfl rfl rfl ?_
                                                                refine RL.step (Gd.none rfl) rfl rfl ?_
                                                                refine NV.pure T (by conv => lhs; whnf; arg 1; whnf) ?_
                                                                refine RL.nil _ _ _ _ ?_
                                                                refine hK19 _ _ _ ?_
                                                                refine SW.cond_t rfl ?_
                                                                refine SW.seq_k ?_
                                                                intro K21 hK21
                                                                refine SW.region _ _ _ _ ?_
                                                                refine RL.step (Gd.none rfl) rfl rfl ?_
                                                                refine NV.pure T (by conv => lhs; whnf; arg 1; whnf) ?_
                                                                refine RL.nil _ _ _ _ ?_
                                                                refine hK21 _ _ _ ?_
                                                                refine SW.ret ?_
                                                                refine retQ.ret (H' := H) (RVs.tmp (by conv => lhs; whnf) RVs.nil) (fun w hw => Sat.sub (by repeat first | exact List.Sublist.refl _ | apply List.Sublist.cons_cons | apply List.Sublist.cons) hw) ?_
                                                                clear hK21 K21 hK19 K19 hK18 K18 hK17 K17 hK16 K16 hK15 K15 hK14 K14 hK13 K13 hK12 K12 hK11 K11 hK10 K10 hK9 K9 hK8 K8 hK7 K7 hK6 K6 hK5 K5 hK4 K4 hK3 K3 hK2 K2 hK1 K1 hK0 K0
                                                                first | exact ⟨rfl, rfl⟩ | (refine ⟨bool1 ?_, rfl⟩; rw [decide_eq_true_eq]; omega)
                                                                )
                                                          · try simp only [decide_eq_true_eq, decide_eq_false_iff_not, Bool.not_eq_true', Bool.not_eq_false', Int.not_lt, Int.not_le, Int.toNat_natCast] at hs6
                                                            first
                                                              | (exfalso; first | omega | contradiction)
                                                              | (
                                                                refine RL.step (Gd.yes rfl rfl) rfl rfl ?_
                                                                refine NV.pure T (by conv => lhs; whnf; arg 1; whnf) ?_
                                                                refine RL.step (Gd.yes rfl rfl) rfl rfl ?_
                                                                first
                                                                  | refine NV.load_var1 T rfl rfl rfl rfl (by repeat first | exact At.head _ _ | apply At.tail) rfl ?_
                                                                  | refine NV.load_varN T rfl rfl rfl rfl rfl (by repeat first | exact At.head _ _ | apply At.tail) (by exact (rfl : _ = [_])) rfl ?_
                                                                  | refine NV.load_elem T rfl rfl rfl rfl (hR _) (by first | exact map_get _ _ (by omega) | assumption) ?_
                                                                refine RL.step (Gd.yes rfl rfl) rfl rfl ?_
                                                                refine NV.pure T (by conv => lhs; whnf; arg 1; whnf) ?_
                                                                refine RL.step (Gd.yes rfl rfl) rfl rfl ?_
                                                                first
                                                                  | refine NV.load_var1 T rfl rfl rfl rfl (by repeat first | exact At.head _ _ | apply At.tail) rfl ?_
                                                                  | refine NV.load_varN T rfl rfl rfl rfl rfl (by repeat first | exact At.head _ _ | apply At.tail) (by exact (rfl : _ = [_])) rfl ?_
                                                                  | refine NV.load_elem T rfl rfl rfl rfl (hR _) (by first | exact map_get _ _ (by omega) | assumption) ?_
                                                                refine RL.step (Gd.yes rfl rfl) rfl rfl ?_
                                                                refine NV.pure T (by conv => lhs; whnf; arg 1; whnf) ?_
                                                                refine RL.step (Gd.none rfl) rfl rfl ?_
                                                                refine NV.pure T (by conv => lhs; whnf; arg 1; whnf) ?_
                                                                refine RL.nil _ _ _ _ ?_
                                                                refine hK19 _ _ _ ?_
                                                                refine SW.cond rfl (fun hc4 => ?_) (fun hc4 => ?_)
                                                                · try simp only [decide_eq_true_eq, decide_eq_false_iff_not, Bool.not_eq_true', Bool.not_eq_false', Int.not_lt, Int.not_le, Int.toNat_natCast] at hc4
                                                                  first
                                                                    | (exfalso; first | omega | contradiction)
                                                                    | (
                                                                      refine SW.seq_k ?_
                                                                      intro K22 hK22
                                                                      refine SW.region _ _ _ _ ?_
                                                                      refine RL.step (Gd.none rfl) rfl rfl ?_
                                                                      refine NV.pure T (by conv => lhs; whnf; arg 1; whnf) ?_
                                                                      refine RL.nil _ _ _ _ ?_
                                                                      refine hK22 _ _ _ ?_
                                                                      refine SW.ret ?_
                                                                      refine retQ.ret (H' := H) (RVs.tmp (by conv => lhs; whnf) RVs.nil) (fun w hw => Sat.sub (by repeat first | exact List.Sublist.refl _ | apply List.Sublist.cons_cons | apply List.Sublist.cons) hw) ?_
                                                                      clear hK22 K22 hK19 K19 hK18 K18 hK17 K17 hK16 K16 hK15 K15 hK14 K14 hK13 K13 hK12 K12 hK11 K11 hK10 K10 hK9 K9 hK8 K8 hK7 K7 hK6 K6 hK5 K5 hK4 K4 hK3 K3 hK2 K2 hK1 K1 hK0 K0
                                                                      first | exact ⟨rfl, rfl⟩ | (refine ⟨bool1 ?_, rfl⟩; rw [decide_eq_true_eq]; omega)
                                                                      )
                                                                · try simp only [decide_eq_true_eq, decide_eq_false_iff_not, Bool.not_eq_true', Bool.not_eq_false', Int.not_lt, Int.not_le, Int.toNat_natCast] at hc4
                                                                  first
                                                                    | (exfalso; first | omega | contradiction)
                                                                    | (
                                                                      refine SW.skip ?_
                                                                      refine hK18 _ _ _ ?_
                                                                      refine SW.region _ _ _ _ ?_
                                                                      refine RL.step (Gd.none rfl) rfl rfl ?_
                                                                      first
                                                                        | refine NV.load_var1 T rfl rfl rfl rfl (by repeat first | exact At.head _ _ | apply At.tail) rfl ?_
                                                                        | refine NV.load_varN T rfl rfl rfl rfl rfl (by repeat first | exact At.head _ _ | apply At.tail) (by exact (rfl : _ = [_, _, _])) rfl ?_
                                                                        | refine NV.load_elem T rfl rfl rfl rfl (hR _) (by first | exact map_get _ _ (by omega) | assumption) ?_
                                                                      refine RL.step (Gd.none rfl) rfl rfl ?_
                                                                      first
                                                                        | refine NV.store_var1 T rfl rfl rfl rfl (by conv => lhs; whnf) rfl (by repeat first | exact At.head _ _ | apply At.tail) rfl (by exact (rfl : _ = [_, _, _])) ?_
                                                                        | refine NV.store_var T rfl rfl rfl (by exact (rfl : _ = [_, _, _])) rfl rfl (by repeat first | exact At.head _ _ | apply At.tail) (Nat.le_of_ble_eq_true rfl) (by exact (rfl : _ = [_, _, _])) ?_
                                                                        | refine NV.store_elem T rfl rfl rfl rfl (by conv => lhs; whnf) rfl (by repeat first | exact At.head _ _ | apply At.tail) (by omega) ?_
                                                                      refine RL.nil _ _ _ _ ?_
                                                                      refine hK12 _ _ _ ?_
                                                                      first
                                                                        | refine SW.drop (x := .var b10_3 _ _) ?_
                                                                        | skip
                                                                      refine SW.region _ _ _ _ ?_
                                                                      refine RL.step (Gd.none rfl) rfl rfl ?_
                                                                      first
                                                                        | refine NV.arith rfl rfl rfl rfl (by omega) (by omega) ?_
                                                                        | refine NV.pure T (by conv => lhs; whnf; arg 1; whnf) ?_
                                                                      refine RL.step (Gd.none rfl) rfl rfl ?_
                                                                      refine NV.pure T (by conv => lhs; whnf; arg 1; whnf) ?_
                                                                      refine RL.nil _ _ _ _ ?_
                                                                      exact ⟨n - (k + 1), (by omega), _, k + 1, _, _, _, (by rfl), (by refine ⟨?_, ?_, ?_, ?_, ?_, ?_, ?_⟩ <;> omega), ((@upd_eta _ 5 _ rfl).trans ((@upd_eta _ 6 _ rfl).trans ((@upd_eta _ 7 _ rfl).trans ((@upd_eta _ 28 _ rfl).trans ((@upd_eta _ 29 _ rfl).trans (@upd_eta _ 30 _ rfl)))))), rfl, rfl⟩
                                                                      )
                                                                )
                                                          )
                                                    )
                                              )
                                        )
                                  )
                            )
                      · try simp only [decide_eq_true_eq, decide_eq_false_iff_not, Bool.not_eq_true', Bool.not_eq_false', Int.not_lt, Int.not_le, Int.toNat_natCast] at hc2
                        first
                          | (exfalso; first | omega | contradiction)
                          | (
                            refine SW.exit ?_
                            refine hK8 _ _ _ ?_
                            refine SW.seq_k ?_
                            intro K23 hK23
                            refine SW.seq_k ?_
                            intro K24 hK24
                            refine SW.region _ _ _ _ ?_
                            refine RL.step (Gd.none rfl) rfl rfl ?_
                            refine NV.pure T (by conv => lhs; whnf; arg 1; whnf) ?_
                            refine RL.step (Gd.none rfl) rfl rfl ?_
                            first
                              | refine NV.load_var1 T rfl rfl rfl rfl (by repeat first | exact At.head _ _ | apply At.tail) rfl ?_
                              | refine NV.load_varN T rfl rfl rfl rfl rfl (by repeat first | exact At.head _ _ | apply At.tail) (by exact (rfl : _ = [_])) rfl ?_
                              | refine NV.load_elem T rfl rfl rfl rfl (hR _) (by first | exact map_get _ _ (by omega) | assumption) ?_
                            refine RL.step (Gd.none rfl) rfl rfl ?_
                            first
                              | refine NV.arith rfl rfl rfl rfl (by omega) (by omega) ?_
                              | refine NV.pure T (by conv => lhs; whnf; arg 1; whnf) ?_
                            refine RL.step (Gd.none rfl) rfl rfl ?_
                            obtain ⟨q, hq1, hq2, hq3⟩ := quo8 (x := x) hx1 (by omega)
                            refine NV.quo rfl rfl rfl (by decide) hq1 ?_
                            refine RL.step (Gd.none rfl) rfl rfl ?_
                            first
                              | refine NV.arith rfl rfl rfl rfl (by omega) (by omega) ?_
                              | refine NV.pure T (by conv => lhs; whnf; arg 1; whnf) ?_
                            refine RL.step (Gd.none rfl) rfl rfl ?_
                            refine NV.pure T (by conv => lhs; whnf; arg 1; whnf) ?_
                            refine RL.nil _ _ _ _ ?_
                            refine hK24 _ _ _ ?_
                            refine SW.block ?_
                            refine SW.loop (fun m fr ds HH => ∃ (frU : Fr) (j : Nat), m = q + 1 - j ∧ (j ≤ q + 1) ∧ fr = (upd (upd (upd frU 6 (.pointer (some ⟨b6_2, 0, none⟩))) 75 (.int .i64 ((q : Int) + 1))) 76 (.int .i64 j)) ∧ ds = [] ∧ HH = (.var b6_2 25 [.int .i64 (x + 8 * (j : Int)), .int .i64 y, .bool (decide (255 < x + 8 * (j : Int)))] :: .var b5_1 25 [.int .i64 a, .int .i64 b, .bool (decide (255 < a))] :: .var b2_0 23 [.int .i64 a, .int .i64 b, .bool (decide (255 < a))] :: H)) (n := q + 1 - 0) ?_ ?_
                            · exact ⟨_, 0, rfl, (Nat.zero_le _), ((@upd_eta _ 6 _ rfl).trans ((@upd_eta _ 75 _ rfl).trans (@upd_eta _ 76 _ rfl))), rfl, (by simp)⟩
                            · rintro m fr ds HH ⟨frU, j, rfl, hj, rfl, rfl, rfl⟩
                              refine SW.seq_k ?_
                              intro K25 hK25
                              refine SW.region _ _ _ _ ?_
                              refine RL.step (Gd.none rfl) rfl rfl ?_
                              refine NV.pure T (by conv => lhs; whnf; arg 1; whnf) ?_
                              refine RL.nil _ _ _ _ ?_
                              refine hK25 _ _ _ ?_
                              refine SW.seq_k ?_
                              intro K26 hK26
                              refine SW.cond rfl (fun hc5 => ?_) (fun hc5 => ?_)
                              · try simp only [decide_eq_true_eq, decide_eq_false_iff_not, Bool.not_eq_true', Bool.not_eq_false', Int.not_lt, Int.not_le, Int.toNat_natCast] at hc5
                                first
                                  | (exfalso; first | omega | contradiction)
                                  | (
                                    refine SW.skip ?_
                                    refine hK26 _ _ _ ?_
                                    refine SW.seq_k ?_
                                    intro K27 hK27
                                    refine SW.block ?_
                                    refine SW.seq_k ?_
                                    intro K28 hK28
                                    refine SW.seq_k ?_
                                    intro K29 hK29
                                    refine SW.region _ _ _ _ ?_
                                    refine RL.step (Gd.none rfl) rfl rfl ?_
                                    refine NV.pure T (by conv => lhs; whnf; arg 1; whnf) ?_
                                    refine RL.step (Gd.none rfl) rfl rfl ?_
                                    first
                                      | refine NV.load_var1 T rfl rfl rfl rfl (by repeat first | exact At.head _ _ | apply At.tail) rfl ?_
                                      | refine NV.load_varN T rfl rfl rfl rfl rfl (by repeat first | exact At.head _ _ | apply At.tail) (by exact (rfl : _ = [_])) rfl ?_
                                      | refine NV.load_elem T rfl rfl rfl rfl (hR _) (by first | exact map_get _ _ (by omega) | assumption) ?_
                                    refine RL.nil _ _ _ _ ?_
                                    refine hK29 _ _ _ ?_
                                    refine SW.cond rfl (fun hc6 => ?_) (fun hc6 => ?_)
                                    · try simp only [decide_eq_true_eq, decide_eq_false_iff_not, Bool.not_eq_true', Bool.not_eq_false', Int.not_lt, Int.not_le, Int.toNat_natCast] at hc6
                                      first
                                        | (exfalso; first | omega | contradiction)
                                        | (
                                          refine SW.seq_k ?_
                                          intro K30 hK30
                                          refine SW.region _ _ _ _ ?_
                                          refine RL.step (Gd.none rfl) rfl rfl ?_
                                          refine NV.pure T (by conv => lhs; whnf; arg 1; whnf) ?_
                                          refine RL.nil _ _ _ _ ?_
                                          refine hK30 _ _ _ ?_
                                          refine SW.ret ?_
                                          refine retQ.ret (H' := H) (RVs.tmp (by conv => lhs; whnf) RVs.nil) (fun w hw => Sat.sub (by repeat first | exact List.Sublist.refl _ | apply List.Sublist.cons_cons | apply List.Sublist.cons) hw) ?_
                                          clear hK30 K30 hK29 K29 hK28 K28 hK27 K27 hK26 K26 hK25 K25 hK24 K24 hK23 K23 hK11 K11 hK10 K10 hK9 K9 hK8 K8 hK7 K7 hK6 K6 hK5 K5 hK4 K4 hK3 K3 hK2 K2 hK1 K1 hK0 K0
                                          first | exact ⟨rfl, rfl⟩ | (refine ⟨bool1 ?_, rfl⟩; rw [decide_eq_true_eq]; omega)
                                          )
                                    · try simp only [decide_eq_true_eq, decide_eq_false_iff_not, Bool.not_eq_true', Bool.not_eq_false', Int.not_lt, Int.not_le, Int.toNat_natCast] at hc6
                                      first
                                        | (exfalso; first | omega | contradiction)
                                        | (
                                          refine SW.skip ?_
                                          refine hK28 _ _ _ ?_
                                          refine SW.region _ _ _ _ ?_
                                          refine RL.step (Gd.none rfl) rfl rfl ?_
                                          first
                                            | refine NV.load_var1 T rfl rfl rfl rfl (by repeat first | exact At.head _ _ | apply At.tail) rfl ?_
                                            | refine NV.load_varN T rfl rfl rfl rfl rfl (by repeat first | exact At.head _ _ | apply At.tail) (by exact (rfl : _ = [_, _, _])) rfl ?_
                                            | refine NV.load_elem T rfl rfl rfl rfl (hR _) (by first | exact map_get _ _ (by omega) | assumption) ?_
                                          refine RL.step (Gd.none rfl) rfl rfl ?_
                                          refine NV.call rfl rfl rfl fun11 rfl rfl (next_ok (x + 8 * (j : Int)) y 3 (by omega) (by omega) (by omega) (by omega) hy1 hy2) ?_
                                          rintro _ _ ⟨rfl, rfl⟩
                                          refine RL.step (Gd.none rfl) rfl rfl ?_
                                          refine NV.pure T (by conv => lhs; whnf; arg 1; whnf) ?_
                                          refine RL.step (Gd.none rfl) rfl rfl ?_
                                          refine NV.pure T (by conv => lhs; whnf; arg 1; whnf) ?_
                                          refine RL.step (Gd.none rfl) rfl rfl ?_
                                          refine NV.pure T (by conv => lhs; whnf; arg 1; whnf) ?_
                                          refine RL.step (Gd.none rfl) rfl rfl ?_
                                          first
                                            | refine NV.store_var1 T rfl rfl rfl rfl (by conv => lhs; whnf) rfl (by repeat first | exact At.head _ _ | apply At.tail) rfl (by exact (rfl : _ = [_, _, _])) ?_
                                            | refine NV.store_var T rfl rfl rfl (by exact (rfl : _ = [_, _, _])) rfl rfl (by repeat first | exact At.head _ _ | apply At.tail) (Nat.le_of_ble_eq_true rfl) (by exact (rfl : _ = [_, _, _])) ?_
                                            | refine NV.store_elem T rfl rfl rfl rfl (by conv => lhs; whnf) rfl (by repeat first | exact At.head _ _ | apply At.tail) (by omega) ?_
                                          refine RL.nil _ _ _ _ ?_
                                          refine hK27 _ _ _ ?_
                                          refine SW.region _ _ _ _ ?_
                                          refine RL.step (Gd.none rfl) rfl rfl ?_
                                          first
                                            | refine NV.arith rfl rfl rfl rfl (by omega) (by omega) ?_
                                            | refine NV.pure T (by conv => lhs; whnf; arg 1; whnf) ?_
                                          refine RL.step (Gd.none rfl) rfl rfl ?_
                                          refine NV.pure T (by conv => lhs; whnf; arg 1; whnf) ?_
                                          refine RL.nil _ _ _ _ ?_
                                          exact ⟨q + 1 - (j + 1), (by omega), _, j + 1, (by rfl), (by omega), ((@upd_eta _ 6 _ rfl).trans ((@upd_eta _ 75 _ rfl).trans (@upd_eta _ 76 _ rfl))), rfl, (by rw [tec3 (by omega), rec3 (by omega), show x + 8 * (j : Int) + 8 = x + 8 * ((j + 1 : Nat) : Int) by omega])⟩
                                          )
                                    )
                              · try simp only [decide_eq_true_eq, decide_eq_false_iff_not, Bool.not_eq_true', Bool.not_eq_false', Int.not_lt, Int.not_le, Int.toNat_natCast] at hc5
                                first
                                  | (exfalso; first | omega | contradiction)
                                  | (
                                    refine SW.exit ?_
                                    refine hK23 _ _ _ ?_
                                    refine SW.seq_k ?_
                                    intro K31 hK31
                                    refine SW.region _ _ _ _ ?_
                                    refine RL.step (Gd.none rfl) rfl rfl ?_
                                    refine NV.pure T (by conv => lhs; whnf; arg 1; whnf) ?_
                                    refine RL.step (Gd.none rfl) rfl rfl ?_
                                    first
                                      | refine NV.load_var1 T rfl rfl rfl rfl (by repeat first | exact At.head _ _ | apply At.tail) rfl ?_
                                      | refine NV.load_varN T rfl rfl rfl rfl rfl (by repeat first | exact At.head _ _ | apply At.tail) (by exact (rfl : _ = [_])) rfl ?_
                                      | refine NV.load_elem T rfl rfl rfl rfl (hR _) (by first | exact map_get _ _ (by omega) | assumption) ?_
                                    refine RL.step (Gd.none rfl) rfl rfl ?_
                                    refine NV.pure T (by conv => lhs; whnf; arg 1; whnf) ?_
                                    refine RL.nil _ _ _ _ ?_
                                    refine hK31 _ _ _ ?_
                                    refine SW.ret ?_
                                    refine retQ.ret (H' := H) (RVs.tmp (by conv => lhs; whnf) RVs.nil) (fun w hw => Sat.sub (by repeat first | exact List.Sublist.refl _ | apply List.Sublist.cons_cons | apply List.Sublist.cons) hw) ?_
                                    clear hK31 K31 hK26 K26 hK25 K25 hK24 K24 hK23 K23 hK11 K11 hK10 K10 hK9 K9 hK8 K8 hK7 K7 hK6 K6 hK5 K5 hK4 K4 hK3 K3 hK2 K2 hK1 K1 hK0 K0
                                    first | exact ⟨rfl, rfl⟩ | (refine ⟨bool1 ?_, rfl⟩; rw [decide_eq_true_eq]; omega)
                                    )
                            )
                    )
              )
        )
theorem off_long {w0 : World} {H : List Chunk} (a b : Int) (c' : Bool) (sa : Option Addr) (n c : Nat) (hm : n ≤ 140737488351232) (hs : 2000 < n) : SC Try.prog w0 6 #[.agg #[.int .i64 a, .int .i64 b, .bool c'], .slice sa n c] H (fun v H' => v = .bool true ∧ H' = H) := by
  refine SC.enter Try.func6 rfl (Nat.le_of_ble_eq_true rfl) ?_
  refine SW.seq_k ?_
  intro K0 hK0
  refine SW.region _ _ _ _ ?_
  refine RL.step (Gd.none rfl) rfl rfl ?_
  refine NV.box rfl (by exact (rfl : _ = [_, _, _])) ?_
  intro b2_0
  refine RL.step (Gd.none rfl) rfl rfl ?_
  refine NV.pure T (by conv => lhs; whnf; arg 1; whnf) ?_
  refine RL.nil _ _ _ _ ?_
  refine hK0 _ _ _ ?_
  refine SW.seq_k ?_
  intro K1 hK1
  refine SW.seq_k ?_
  intro K2 hK2
  refine SW.region _ _ _ _ ?_
  refine RL.step (Gd.none rfl) rfl rfl ?_
  refine NV.call rfl rfl rfl fun8 rfl rfl (alive) ?_
  rintro _ _ ⟨rfl, rfl⟩
  refine RL.step (Gd.none rfl) rfl rfl ?_
  refine NV.pure T (by conv => lhs; whnf; arg 1; whnf) ?_
  refine RL.nil _ _ _ _ ?_
  refine hK2 _ _ _ ?_
  refine SW.cond_f rfl ?_
  refine SW.skip ?_
  refine hK1 _ _ _ ?_
  refine SW.seq_k ?_
  intro K3 hK3
  refine SW.region _ _ _ _ ?_
  refine RL.step (Gd.none rfl) rfl rfl ?_
  first
    | refine NV.load_var1 T rfl rfl rfl rfl (by repeat first | exact At.head _ _ | apply At.tail) rfl ?_
    | refine NV.load_varN T rfl rfl rfl rfl rfl (by repeat first | exact At.head _ _ | apply At.tail) (by exact (rfl : _ = [_, _, _])) rfl ?_
    | refine NV.load_elem T rfl rfl rfl rfl (by assumption) (by first | exact map_get _ _ (by omega) | assumption) ?_
  refine RL.step (Gd.none rfl) rfl rfl ?_
  refine NV.alloc T rfl rfl rfl (by exact (rfl : _ = [_, _, _])) ?_
  intro b5_1
  refine RL.step (Gd.none rfl) rfl rfl ?_
  first
    | refine NV.store_var1 T rfl rfl rfl rfl (by conv => lhs; whnf) rfl (by repeat first | exact At.head _ _ | apply At.tail) rfl (by exact (rfl : _ = [_, _, _])) ?_
    | refine NV.store_var T rfl rfl rfl (by exact (rfl : _ = [_, _, _])) rfl rfl (by repeat first | exact At.head _ _ | apply At.tail) (Nat.le_of_ble_eq_true rfl) (by exact (rfl : _ = [_, _, _])) ?_
    | refine NV.store_elem T rfl rfl rfl rfl (by conv => lhs; whnf) rfl (by repeat first | exact At.head _ _ | apply At.tail) (by omega) ?_
  refine RL.nil _ _ _ _ ?_
  refine hK3 _ _ _ ?_
  refine SW.seq_k ?_
  intro K4 hK4
  refine SW.seq_k ?_
  intro K5 hK5
  refine SW.region _ _ _ _ ?_
  refine RL.step (Gd.none rfl) rfl rfl ?_
  refine NV.pure T (by conv => lhs; whnf; arg 1; whnf) ?_
  refine RL.step (Gd.none rfl) rfl rfl ?_
  refine NV.pure T (by conv => lhs; whnf; arg 1; whnf) ?_
  refine RL.step (Gd.none rfl) rfl rfl ?_
  refine NV.pure T (by conv => lhs; whnf; arg 1; whnf) ?_
  refine RL.step (Gd.none rfl) rfl rfl ?_
  refine NV.pure T (by conv => lhs; whnf; arg 1; whnf) ?_
  refine RL.split 18 rfl (fun hs0 => ?_) (fun hs0 => ?_)
  · try simp only [decide_eq_true_eq, decide_eq_false_iff_not, Bool.not_eq_true', Bool.not_eq_false', Int.not_lt, Int.not_le, Int.toNat_natCast] at hs0
    refine RL.guard_no rfl rfl rfl ?_
    refine RL.guard_no rfl rfl rfl ?_
    refine RL.guard_no rfl rfl rfl ?_
    refine RL.step (Gd.none rfl) rfl rfl ?_
    refine NV.pure T (by conv => lhs; whnf; arg 1; whnf) ?_
    refine RL.step (Gd.none rfl) rfl rfl ?_
    refine NV.pure T (by conv => lhs; whnf; arg 1; whnf) ?_
    refine RL.guard_no rfl rfl rfl ?_
    refine RL.guard_no rfl rfl rfl ?_
    refine RL.step (Gd.none rfl) rfl rfl ?_
    refine NV.pure T (by conv => lhs; whnf; arg 1; whnf) ?_
    refine RL.nil _ _ _ _ ?_
    refine hK5 _ _ _ ?_
    refine SW.cond_t rfl ?_
    refine SW.seq_k ?_
    intro K6 hK6
    refine SW.region _ _ _ _ ?_
    refine RL.step (Gd.none rfl) rfl rfl ?_
    refine NV.pure T (by conv => lhs; whnf; arg 1; whnf) ?_
    refine RL.nil _ _ _ _ ?_
    refine hK6 _ _ _ ?_
    refine SW.ret ?_
    refine retQ.ret (H' := H) (RVs.tmp (by conv => lhs; whnf) RVs.nil) (fun w hw => Sat.sub (by repeat first | exact List.Sublist.refl _ | apply List.Sublist.cons_cons | apply List.Sublist.cons) hw) ?_
    clear hK6 K6 hK5 K5 hK4 K4 hK3 K3 hK2 K2 hK1 K1 hK0 K0
    exact ⟨rfl, rfl⟩
  · try simp only [decide_eq_true_eq, decide_eq_false_iff_not, Bool.not_eq_true', Bool.not_eq_false', Int.not_lt, Int.not_le, Int.toNat_natCast] at hs0
    exfalso; omega
theorem off_off {w0 : World} {H : List Chunk} (a b : Int) (hoff : 255 < a) (ha : 0 ≤ a) (ha2 : a ≤ 263) (hb : 0 ≤ b) (hb2 : b ≤ 255) (sa : Option Addr) (n c : Nat) (hs : n ≤ 2000) : SC Try.prog w0 6 #[sv a b, .slice sa n c] H (fun v H' => v = .bool true ∧ H' = H) := by
  refine SC.enter Try.func6 rfl (Nat.le_of_ble_eq_true rfl) ?_
  refine SW.seq_k ?_
  intro K0 hK0
  refine SW.region _ _ _ _ ?_
  refine RL.step (Gd.none rfl) rfl rfl ?_
  refine NV.box rfl (by exact (rfl : _ = [_, _, _])) ?_
  intro b2_0
  refine RL.step (Gd.none rfl) rfl rfl ?_
  refine NV.pure T (by conv => lhs; whnf; arg 1; whnf) ?_
  refine RL.nil _ _ _ _ ?_
  refine hK0 _ _ _ ?_
  refine SW.seq_k ?_
  intro K1 hK1
  refine SW.seq_k ?_
  intro K2 hK2
  refine SW.region _ _ _ _ ?_
  refine RL.step (Gd.none rfl) rfl rfl ?_
  refine NV.call rfl rfl rfl fun8 rfl rfl (alive) ?_
  rintro _ _ ⟨rfl, rfl⟩
  refine RL.step (Gd.none rfl) rfl rfl ?_
  refine NV.pure T (by conv => lhs; whnf; arg 1; whnf) ?_
  refine RL.nil _ _ _ _ ?_
  refine hK2 _ _ _ ?_
  refine SW.cond_f rfl ?_
  refine SW.skip ?_
  refine hK1 _ _ _ ?_
  refine SW.seq_k ?_
  intro K3 hK3
  refine SW.region _ _ _ _ ?_
  refine RL.step (Gd.none rfl) rfl rfl ?_
  first
    | refine NV.load_var1 T rfl rfl rfl rfl (by repeat first | exact At.head _ _ | apply At.tail) rfl ?_
    | refine NV.load_varN T rfl rfl rfl rfl rfl (by repeat first | exact At.head _ _ | apply At.tail) (by exact (rfl : _ = [_, _, _])) rfl ?_
    | refine NV.load_elem T rfl rfl rfl rfl (by assumption) (by first | exact map_get _ _ (by omega) | assumption) ?_
  refine RL.step (Gd.none rfl) rfl rfl ?_
  refine NV.alloc T rfl rfl rfl (by exact (rfl : _ = [_, _, _])) ?_
  intro b5_1
  refine RL.step (Gd.none rfl) rfl rfl ?_
  first
    | refine NV.store_var1 T rfl rfl rfl rfl (by conv => lhs; whnf) rfl (by repeat first | exact At.head _ _ | apply At.tail) rfl (by exact (rfl : _ = [_, _, _])) ?_
    | refine NV.store_var T rfl rfl rfl (by exact (rfl : _ = [_, _, _])) rfl rfl (by repeat first | exact At.head _ _ | apply At.tail) (Nat.le_of_ble_eq_true rfl) (by exact (rfl : _ = [_, _, _])) ?_
    | refine NV.store_elem T rfl rfl rfl rfl (by conv => lhs; whnf) rfl (by repeat first | exact At.head _ _ | apply At.tail) (by omega) ?_
  refine RL.nil _ _ _ _ ?_
  refine hK3 _ _ _ ?_
  refine SW.seq_k ?_
  intro K4 hK4
  refine SW.seq_k ?_
  intro K5 hK5
  refine SW.region _ _ _ _ ?_
  refine RL.step (Gd.none rfl) rfl rfl ?_
  refine NV.pure T (by conv => lhs; whnf; arg 1; whnf) ?_
  refine RL.step (Gd.none rfl) rfl rfl ?_
  refine NV.pure T (by conv => lhs; whnf; arg 1; whnf) ?_
  refine RL.step (Gd.none rfl) rfl rfl ?_
  refine NV.pure T (by conv => lhs; whnf; arg 1; whnf) ?_
  refine RL.step (Gd.none rfl) rfl rfl ?_
  refine NV.pure T (by conv => lhs; whnf; arg 1; whnf) ?_
  refine RL.split 18 rfl (fun hs0 => ?_) (fun hs0 => ?_)
  · try simp only [decide_eq_true_eq, decide_eq_false_iff_not, Bool.not_eq_true', Bool.not_eq_false', Int.not_lt, Int.not_le, Int.toNat_natCast] at hs0
    exfalso; first | omega | (simp at hs1; done)
  · try simp only [decide_eq_true_eq, decide_eq_false_iff_not, Bool.not_eq_true', Bool.not_eq_false', Int.not_lt, Int.not_le, Int.toNat_natCast] at hs0
    refine RL.step (Gd.yes rfl rfl) rfl rfl ?_
    first
      | refine NV.load_var1 T rfl rfl rfl rfl (by repeat first | exact At.head _ _ | apply At.tail) rfl ?_
      | refine NV.load_varN T rfl rfl rfl rfl rfl (by repeat first | exact At.head _ _ | apply At.tail) (by exact (rfl : _ = [_, _, _])) rfl ?_
      | refine NV.load_elem T rfl rfl rfl rfl (by assumption) (by first | exact map_get _ _ (by omega) | assumption) ?_
    refine RL.step (Gd.yes rfl rfl) rfl rfl ?_
    refine NV.call rfl rfl rfl fun13 rfl rfl (check_ok a b ha ha2 hb hb2) ?_
    rintro _ _ ⟨rfl, rfl⟩
    refine RL.step (Gd.yes rfl rfl) rfl rfl ?_
    refine NV.pure T (by conv => lhs; whnf; arg 1; whnf) ?_
    refine RL.step (Gd.none rfl) rfl rfl ?_
    refine NV.pure T (by conv => lhs; whnf; arg 1; whnf) ?_
    refine RL.step (Gd.none rfl) rfl rfl ?_
    refine NV.pure T (by conv => lhs; whnf; arg 1; whnf) ?_
    refine RL.split 23 rfl (fun hs1 => ?_) (fun hs1 => ?_)
    · try simp only [decide_eq_true_eq, decide_eq_false_iff_not, Bool.not_eq_true', Bool.not_eq_false', Int.not_lt, Int.not_le, Int.toNat_natCast] at hs1
      exfalso; first | omega | (simp at hs1; done)
    · try simp only [decide_eq_true_eq, decide_eq_false_iff_not, Bool.not_eq_true', Bool.not_eq_false', Int.not_lt, Int.not_le, Int.toNat_natCast] at hs1
      refine RL.step (Gd.yes rfl rfl) rfl rfl ?_
      refine NV.pure T (by conv => lhs; whnf; arg 1; whnf) ?_
      refine RL.step (Gd.yes rfl rfl) rfl rfl ?_
      first
        | refine NV.load_var1 T rfl rfl rfl rfl (by repeat first | exact At.head _ _ | apply At.tail) rfl ?_
        | refine NV.load_varN T rfl rfl rfl rfl rfl (by repeat first | exact At.head _ _ | apply At.tail) (by exact (rfl : _ = [_])) rfl ?_
        | refine NV.load_elem T rfl rfl rfl rfl (by assumption) (by first | exact map_get _ _ (by omega) | assumption) ?_
      refine RL.step (Gd.none rfl) rfl rfl ?_
      refine NV.pure T (by conv => lhs; whnf; arg 1; whnf) ?_
      refine RL.nil _ _ _ _ ?_
      refine hK5 _ _ _ ?_
      refine SW.cond rfl (fun hc1 => ?_) (fun hc1 => ?_)
      · try simp only [decide_eq_true_eq, decide_eq_false_iff_not, Bool.not_eq_true', Bool.not_eq_false', Int.not_lt, Int.not_le, Int.toNat_natCast] at hc1
        refine SW.seq_k ?_
        intro K6 hK6
        refine SW.region _ _ _ _ ?_
        refine RL.step (Gd.none rfl) rfl rfl ?_
        refine NV.pure T (by conv => lhs; whnf; arg 1; whnf) ?_
        refine RL.nil _ _ _ _ ?_
        refine hK6 _ _ _ ?_
        refine SW.ret ?_
        refine retQ.ret (H' := H) (RVs.tmp (by conv => lhs; whnf) RVs.nil) (fun w hw => Sat.sub (by repeat first | exact List.Sublist.refl _ | apply List.Sublist.cons_cons | apply List.Sublist.cons) hw) ?_
        clear hK6 K6 hK5 K5 hK4 K4 hK3 K3 hK2 K2 hK1 K1 hK0 K0
        exact ⟨rfl, rfl⟩
      · try simp only [decide_eq_true_eq, decide_eq_false_iff_not, Bool.not_eq_true', Bool.not_eq_false', Int.not_lt, Int.not_le, Int.toNat_natCast] at hc1
        exfalso; first | omega | (simp at hs1; done)
theorem off_bad {w0 : World} {H : List Chunk} (a b : Int) (c' : Bool) (hbad : okS a b c' = false) (sa : Option Addr) (n c : Nat) (hs : n ≤ 2000) : SC Try.prog w0 6 #[.agg #[.int .i64 a, .int .i64 b, .bool c'], .slice sa n c] H (fun v H' => v = .bool true ∧ H' = H) := by
  refine SC.enter Try.func6 rfl (Nat.le_of_ble_eq_true rfl) ?_
  refine SW.seq_k ?_
  intro K0 hK0
  refine SW.region _ _ _ _ ?_
  refine RL.step (Gd.none rfl) rfl rfl ?_
  refine NV.box rfl (by exact (rfl : _ = [_, _, _])) ?_
  intro b2_0
  refine RL.step (Gd.none rfl) rfl rfl ?_
  refine NV.pure T (by conv => lhs; whnf; arg 1; whnf) ?_
  refine RL.nil _ _ _ _ ?_
  refine hK0 _ _ _ ?_
  refine SW.seq_k ?_
  intro K1 hK1
  refine SW.seq_k ?_
  intro K2 hK2
  refine SW.region _ _ _ _ ?_
  refine RL.step (Gd.none rfl) rfl rfl ?_
  refine NV.call rfl rfl rfl fun8 rfl rfl (alive) ?_
  rintro _ _ ⟨rfl, rfl⟩
  refine RL.step (Gd.none rfl) rfl rfl ?_
  refine NV.pure T (by conv => lhs; whnf; arg 1; whnf) ?_
  refine RL.nil _ _ _ _ ?_
  refine hK2 _ _ _ ?_
  refine SW.cond_f rfl ?_
  refine SW.skip ?_
  refine hK1 _ _ _ ?_
  refine SW.seq_k ?_
  intro K3 hK3
  refine SW.region _ _ _ _ ?_
  refine RL.step (Gd.none rfl) rfl rfl ?_
  first
    | refine NV.load_var1 T rfl rfl rfl rfl (by repeat first | exact At.head _ _ | apply At.tail) rfl ?_
    | refine NV.load_varN T rfl rfl rfl rfl rfl (by repeat first | exact At.head _ _ | apply At.tail) (by exact (rfl : _ = [_, _, _])) rfl ?_
    | refine NV.load_elem T rfl rfl rfl rfl (by assumption) (by first | exact map_get _ _ (by omega) | assumption) ?_
  refine RL.step (Gd.none rfl) rfl rfl ?_
  refine NV.alloc T rfl rfl rfl (by exact (rfl : _ = [_, _, _])) ?_
  intro b5_1
  refine RL.step (Gd.none rfl) rfl rfl ?_
  first
    | refine NV.store_var1 T rfl rfl rfl rfl (by conv => lhs; whnf) rfl (by repeat first | exact At.head _ _ | apply At.tail) rfl (by exact (rfl : _ = [_, _, _])) ?_
    | refine NV.store_var T rfl rfl rfl (by exact (rfl : _ = [_, _, _])) rfl rfl (by repeat first | exact At.head _ _ | apply At.tail) (Nat.le_of_ble_eq_true rfl) (by exact (rfl : _ = [_, _, _])) ?_
    | refine NV.store_elem T rfl rfl rfl rfl (by conv => lhs; whnf) rfl (by repeat first | exact At.head _ _ | apply At.tail) (by omega) ?_
  refine RL.nil _ _ _ _ ?_
  refine hK3 _ _ _ ?_
  refine SW.seq_k ?_
  intro K4 hK4
  refine SW.seq_k ?_
  intro K5 hK5
  refine SW.region _ _ _ _ ?_
  refine RL.step (Gd.none rfl) rfl rfl ?_
  refine NV.pure T (by conv => lhs; whnf; arg 1; whnf) ?_
  refine RL.step (Gd.none rfl) rfl rfl ?_
  refine NV.pure T (by conv => lhs; whnf; arg 1; whnf) ?_
  refine RL.step (Gd.none rfl) rfl rfl ?_
  refine NV.pure T (by conv => lhs; whnf; arg 1; whnf) ?_
  refine RL.step (Gd.none rfl) rfl rfl ?_
  refine NV.pure T (by conv => lhs; whnf; arg 1; whnf) ?_
  refine RL.split 18 rfl (fun hs0 => ?_) (fun hs0 => ?_)
  · try simp only [decide_eq_true_eq, decide_eq_false_iff_not, Bool.not_eq_true', Bool.not_eq_false', Int.not_lt, Int.not_le, Int.toNat_natCast] at hs0
    exfalso; first | omega | (simp at hs1; done)
  · try simp only [decide_eq_true_eq, decide_eq_false_iff_not, Bool.not_eq_true', Bool.not_eq_false', Int.not_lt, Int.not_le, Int.toNat_natCast] at hs0
    refine RL.step (Gd.yes rfl rfl) rfl rfl ?_
    first
      | refine NV.load_var1 T rfl rfl rfl rfl (by repeat first | exact At.head _ _ | apply At.tail) rfl ?_
      | refine NV.load_varN T rfl rfl rfl rfl rfl (by repeat first | exact At.head _ _ | apply At.tail) (by exact (rfl : _ = [_, _, _])) rfl ?_
      | refine NV.load_elem T rfl rfl rfl rfl (by assumption) (by first | exact map_get _ _ (by omega) | assumption) ?_
    refine RL.step (Gd.yes rfl rfl) rfl rfl ?_
    refine NV.call rfl rfl rfl fun13 rfl rfl (check_bad a b c' hbad) ?_
    rintro _ _ ⟨rfl, rfl⟩
    refine RL.step (Gd.yes rfl rfl) rfl rfl ?_
    refine NV.pure T (by conv => lhs; whnf; arg 1; whnf) ?_
    refine RL.step (Gd.none rfl) rfl rfl ?_
    refine NV.pure T (by conv => lhs; whnf; arg 1; whnf) ?_
    refine RL.step (Gd.none rfl) rfl rfl ?_
    refine NV.pure T (by conv => lhs; whnf; arg 1; whnf) ?_
    refine RL.split 23 rfl (fun hs1 => ?_) (fun hs1 => ?_)
    · try simp only [decide_eq_true_eq, decide_eq_false_iff_not, Bool.not_eq_true', Bool.not_eq_false', Int.not_lt, Int.not_le, Int.toNat_natCast] at hs1
      refine RL.guard_no rfl rfl rfl ?_
      refine RL.guard_no rfl rfl rfl ?_
      refine RL.step (Gd.none rfl) rfl rfl ?_
      refine NV.pure T (by conv => lhs; whnf; arg 1; whnf) ?_
      refine RL.nil _ _ _ _ ?_
      refine hK5 _ _ _ ?_
      refine SW.cond_t rfl ?_
      refine SW.seq_k ?_
      intro K6 hK6
      refine SW.region _ _ _ _ ?_
      refine RL.step (Gd.none rfl) rfl rfl ?_
      refine NV.pure T (by conv => lhs; whnf; arg 1; whnf) ?_
      refine RL.nil _ _ _ _ ?_
      refine hK6 _ _ _ ?_
      refine SW.ret ?_
      refine retQ.ret (H' := H) (RVs.tmp (by conv => lhs; whnf) RVs.nil) (fun w hw => Sat.sub (by repeat first | exact List.Sublist.refl _ | apply List.Sublist.cons_cons | apply List.Sublist.cons) hw) ?_
      clear hK6 K6 hK5 K5 hK4 K4 hK3 K3 hK2 K2 hK1 K1 hK0 K0
      exact ⟨rfl, rfl⟩
    · try simp only [decide_eq_true_eq, decide_eq_false_iff_not, Bool.not_eq_true', Bool.not_eq_false', Int.not_lt, Int.not_le, Int.toNat_natCast] at hs1
      exfalso; first | omega | (simp at hs1; done)
theorem off {w0 : World} {H : List Chunk} (a b : Int) (c' : Bool) (sa : Option Addr) (n c : Nat) (es : List Int) (hR : ∀ H, Rd w0 H sa n c 1 (es.map (.int .i64))) (hn : n = es.length) (hm : n ≤ 140737488351232) :
    SC Try.prog w0 6 #[.agg #[.int .i64 a, .int .i64 b, .bool c'], .slice sa n c] H (fun v H' => v = .bool true ∧ H' = H) := by
  by_cases hs : 2000 < n
  · exact off_long a b c' sa n c hm hs
  cases h : okS a b c' with
  | false => exact off_bad a b c' h sa n c (by omega)
  | true =>
    obtain ⟨e1, e2, e3, e4, rfl⟩ := okS_true h
    by_cases ho : 255 < a
    · exact off_off a b ho e1 e2 e3 e4 sa n c (by omega)
    · exact off_ok a b (by omega) e1 e2 e3 e4 sa n c es hR hn (by omega)
end Go.Proofs.Ytnlifdnfkmlfbaa.M
