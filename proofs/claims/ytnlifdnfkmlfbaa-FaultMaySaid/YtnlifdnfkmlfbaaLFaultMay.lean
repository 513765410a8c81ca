import Derived.Test.YtnlifdnfkmlfbaaFB
set_option linter.unusedVariables false
set_option linter.unusedSimpArgs false
namespace Go.Proofs.Ytnlifdnfkmlfbaa.M
open Go Go.Sep Go.Proofs
set_option maxRecDepth 10000
theorem may_facts {a b e : Int} (he : 1 ≤ e) (he2 : e ≤ 6) (ha : 0 ≤ a) (ha2 : a ≤ 263) (hb : 0 ≤ b) (hb2 : b ≤ 255) :
    (0 ≤ tec a b e ∧ tec a b e ≤ 263 ∧ 0 ≤ rec_ a b e ∧ rec_ a b e ≤ 255) ∧
    (255 < a → e = 6 → tec a b e = 0 ∧ rec_ a b e = 0) ∧ (255 < a → e ≠ 6 → tec a b e = a ∧ rec_ a b e = b) ∧
    (a ≤ 255 → tec a b e ≤ a + 8) ∧ (a ≤ 255 → rec_ a b e ≤ b + 1) ∧ (a ≤ 255 → tec a b e < a → e = 1) ∧ (a ≤ 255 → rec_ a b e < b → e = 2) ∧
    (a ≤ 255 → e = 3 → a < tec a b e) ∧ (a ≤ 255 → e = 5 → a ≤ 127 → b ≤ 127 → a < tec a b e) ∧ (a ≤ 255 → a < tec a b e → e = 3 ∨ (e = 5 ∧ a ≤ 127 ∧ b ≤ 127)) := by
  have ht : (255 < a ∧ e = 6 ∧ tec a b e = 0) ∨ (255 < a ∧ e ≠ 6 ∧ tec a b e = a) ∨ (a ≤ 255 ∧ e = 1 ∧ tec a b e = max 0 (a - 1)) ∨ (a ≤ 255 ∧ e = 3 ∧ tec a b e = a + 8) ∨ (a ≤ 255 ∧ e = 5 ∧ a ≤ 127 ∧ b ≤ 127 ∧ tec a b e = a + 8) ∨ (a ≤ 255 ∧ e ≠ 1 ∧ e ≠ 3 ∧ ¬ (e = 5 ∧ a ≤ 127 ∧ b ≤ 127) ∧ tec a b e = a) := by
    unfold tec; repeat' split
    all_goals omega
  have hr : (255 < a ∧ e = 6 ∧ rec_ a b e = 0) ∨ (255 < a ∧ e ≠ 6 ∧ rec_ a b e = b) ∨ (a ≤ 255 ∧ e = 2 ∧ 127 < b ∧ rec_ a b e = 120) ∨ (a ≤ 255 ∧ e = 2 ∧ b ≤ 127 ∧ rec_ a b e = max 0 (b - 1)) ∨ (a ≤ 255 ∧ e = 4 ∧ rec_ a b e = min 255 (b + 1)) ∨ (a ≤ 255 ∧ e ≠ 2 ∧ e ≠ 4 ∧ rec_ a b e = b) := by
    unfold rec_; repeat' split
    all_goals omega
  generalize tec a b e = x at ht ⊢
  generalize rec_ a b e = y at hr ⊢
  refine ⟨⟨?_, ?_, ?_, ?_⟩, ?_, ?_, ?_, ?_, ?_, ?_, ?_, ?_, ?_⟩ <;> omega
theorem bool1 {x : Bool} (h : x = true) : Value.bool x = Value.bool true := by rw [h]
theorem sv_zero : Value.agg #[.int .i64 0, .int .i64 0, .bool false] = sv 0 0 := rfl
theorem may_off6 {w0 : World} {H : List Chunk} (a b e : Int) (hoff : 255 < a) (h6 : e = 6) (he : 1 ≤ e) (he2 : e ≤ 6) (ha : 0 ≤ a) (ha2 : a ≤ 263) (hb : 0 ≤ b) (hb2 : b ≤ 255) : SC Try.prog w0 4 #[sv a b, .int .i64 e] H (fun v H' => v = .bool true ∧ H' = H) := by
  refine SC.enter Try.func4 rfl (Nat.le_of_ble_eq_true rfl) ?_
  refine SW.seq_k ?_
  intro K0 hK0
  refine SW.region _ _ _ _ ?_
  refine RL.step (Gd.none rfl) rfl rfl ?_
  refine NV.box rfl (by exact (rfl : _ = [_, _, _])) ?_
  intro b2_0
  refine RL.step (Gd.none rfl) rfl rfl ?_
  refine NV.pure T (by conv => lhs; whnf; arg 1; whnf) ?_
  refine RL.nil _ _ _ _ ?_
  refine hK0 _ _ _ ?_
  refine SW.seq_k ?_
  intro K1 hK1
  refine SW.seq_k ?_
  intro K2 hK2
  refine SW.region _ _ _ _ ?_
  refine RL.step (Gd.none rfl) rfl rfl ?_
  refine NV.call rfl rfl rfl fun8 rfl rfl (alive) ?_
  rintro _ _ ⟨rfl, rfl⟩
  refine RL.step (Gd.none rfl) rfl rfl ?_
  refine NV.pure T (by conv => lhs; whnf; arg 1; whnf) ?_
  refine RL.nil _ _ _ _ ?_
  refine hK2 _ _ _ ?_
  refine SW.cond_f rfl ?_
  refine SW.skip ?_
  refine hK1 _ _ _ ?_
  refine SW.seq_k ?_
  intro K3 hK3
  refine SW.region _ _ _ _ ?_
  refine RL.step (Gd.none rfl) rfl rfl ?_
  first
    | refine NV.load_var1 T rfl rfl rfl rfl (by repeat first | exact At.head _ _ | apply At.tail) rfl ?_
    | refine NV.load_varN T rfl rfl rfl rfl rfl (by repeat first | exact At.head _ _ | apply At.tail) (by exact (rfl : _ = [_, _, _])) rfl ?_
    | refine NV.load_elem T rfl rfl rfl rfl (by assumption) (by first | exact map_get _ _ (by omega) | assumption) ?_
  refine RL.step (Gd.none rfl) rfl rfl ?_
  refine NV.alloc T rfl rfl rfl (by exact (rfl : _ = [_, _, _])) ?_
  intro b5_1
  refine RL.step (Gd.none rfl) rfl rfl ?_
  first
    | refine NV.store_var1 T rfl rfl rfl rfl (by conv => lhs; whnf) rfl (by repeat first | exact At.head _ _ | apply At.tail) rfl (by exact (rfl : _ = [_, _, _])) ?_
    | refine NV.store_var T rfl rfl rfl (by exact (rfl : _ = [_, _, _])) rfl rfl (by repeat first | exact At.head _ _ | apply At.tail) (Nat.le_of_ble_eq_true rfl) (by exact (rfl : _ = [_, _, _])) ?_
    | refine NV.store_elem T rfl rfl rfl rfl (by conv => lhs; whnf) rfl (by repeat first | exact At.head _ _ | apply At.tail) (by omega) ?_
  refine RL.nil _ _ _ _ ?_
  refine hK3 _ _ _ ?_
  refine SW.seq_k ?_
  intro K4 hK4
  refine SW.region _ _ _ _ ?_
  refine RL.step (Gd.none rfl) rfl rfl ?_
  first
    | refine NV.load_var1 T rfl rfl rfl rfl (by repeat first | exact At.head _ _ | apply At.tail) rfl ?_
    | refine NV.load_varN T rfl rfl rfl rfl rfl (by repeat first | exact At.head _ _ | apply At.tail) (by exact (rfl : _ = [_, _, _])) rfl ?_
    | refine NV.load_elem T rfl rfl rfl rfl (by assumption) (by first | exact map_get _ _ (by omega) | assumption) ?_
  refine RL.step (Gd.none rfl) rfl rfl ?_
  refine NV.pure T (by conv => lhs; whnf; arg 1; whnf) ?_
  refine RL.step (Gd.none rfl) rfl rfl ?_
  refine NV.call rfl rfl rfl fun11 rfl rfl (next_ok a b e he he2 ha ha2 hb hb2) ?_
  rintro _ _ ⟨rfl, rfl⟩; have hf := may_facts he he2 ha ha2 hb hb2; revert hf; generalize tec a b e = x; generalize rec_ a b e = y; rintro ⟨⟨x1, x2, y1, y2⟩, m1, m2, m3, m4, m5, m6, m7, m8, m9⟩; obtain ⟨rfl, rfl⟩ := m1 hoff h6
  refine RL.step (Gd.none rfl) rfl rfl ?_
  refine NV.pure T (by conv => lhs; whnf; arg 1; whnf) ?_
  refine RL.step (Gd.none rfl) rfl rfl ?_
  refine NV.pure T (by conv => lhs; whnf; arg 1; whnf) ?_
  refine RL.step (Gd.none rfl) rfl rfl ?_
  refine NV.pure T (by conv => lhs; whnf; arg 1; whnf) ?_
  refine RL.step (Gd.none rfl) rfl rfl ?_
  refine NV.alloc T rfl rfl rfl (by exact (rfl : _ = [_, _, _])) ?_
  intro b6_2
  refine RL.step (Gd.none rfl) rfl rfl ?_
  first
    | refine NV.store_var1 T rfl rfl rfl rfl (by conv => lhs; whnf) rfl (by repeat first | exact At.head _ _ | apply At.tail) rfl (by exact (rfl : _ = [_, _, _])) ?_
    | refine NV.store_var T rfl rfl rfl (by exact (rfl : _ = [_, _, _])) rfl rfl (by repeat first | exact At.head _ _ | apply At.tail) (Nat.le_of_ble_eq_true rfl) (by exact (rfl : _ = [_, _, _])) ?_
    | refine NV.store_elem T rfl rfl rfl rfl (by conv => lhs; whnf) rfl (by repeat first | exact At.head _ _ | apply At.tail) (by omega) ?_
  refine RL.step (Gd.none rfl) rfl rfl ?_
  refine NV.pure T (by conv => lhs; whnf; arg 1; whnf) ?_
  refine RL.nil _ _ _ _ ?_
  refine hK4 _ _ _ ?_
  refine SW.seq_k ?_
  intro K5 hK5
  refine SW.seq_k ?_
  intro K6 hK6
  refine SW.region _ _ _ _ ?_
  refine RL.step (Gd.none rfl) rfl rfl ?_
  refine NV.pure T (by conv => lhs; whnf; arg 1; whnf) ?_
  refine RL.step (Gd.none rfl) rfl rfl ?_
  refine NV.pure T (by conv => lhs; whnf; arg 1; whnf) ?_
  refine RL.nil _ _ _ _ ?_
  refine hK6 _ _ _ ?_
  refine SW.cond_f rfl ?_
  refine SW.skip ?_
  refine hK5 _ _ _ ?_
  refine SW.seq_k ?_
  intro K7 hK7
  refine SW.seq_k ?_
  intro K8 hK8
  refine SW.region _ _ _ _ ?_
  refine RL.step (Gd.none rfl) rfl rfl ?_
  first
    | refine NV.load_var1 T rfl rfl rfl rfl (by repeat first | exact At.head _ _ | apply At.tail) rfl ?_
    | refine NV.load_varN T rfl rfl rfl rfl rfl (by repeat first | exact At.head _ _ | apply At.tail) (by exact (rfl : _ = [_, _, _])) rfl ?_
    | refine NV.load_elem T rfl rfl rfl rfl (by assumption) (by first | exact map_get _ _ (by omega) | assumption) ?_
  refine RL.step (Gd.none rfl) rfl rfl ?_
  refine NV.call rfl rfl rfl fun13 rfl rfl (check_ok _ _ x1 x2 y1 y2) ?_
  rintro _ _ ⟨rfl, rfl⟩
  refine RL.step (Gd.none rfl) rfl rfl ?_
  refine NV.pure T (by conv => lhs; whnf; arg 1; whnf) ?_
  refine RL.nil _ _ _ _ ?_
  refine hK8 _ _ _ ?_
  refine SW.cond_f rfl ?_
  refine SW.skip ?_
  refine hK7 _ _ _ ?_
  refine SW.seq_k ?_
  intro K9 hK9
  refine SW.seq_k ?_
  intro K10 hK10
  refine SW.region _ _ _ _ ?_
  refine RL.step (Gd.none rfl) rfl rfl ?_
  refine NV.pure T (by conv => lhs; whnf; arg 1; whnf) ?_
  refine RL.step (Gd.none rfl) rfl rfl ?_
  first
    | refine NV.load_var1 T rfl rfl rfl rfl (by repeat first | exact At.head _ _ | apply At.tail) rfl ?_
    | refine NV.load_varN T rfl rfl rfl rfl rfl (by repeat first | exact At.head _ _ | apply At.tail) (by exact (rfl : _ = [_])) rfl ?_
    | refine NV.load_elem T rfl rfl rfl rfl (by assumption) (by first | exact map_get _ _ (by omega) | assumption) ?_
  refine RL.nil _ _ _ _ ?_
  refine hK10 _ _ _ ?_
  refine SW.cond rfl (fun hc3 => ?_) (fun hc3 => ?_)
  · try simp only [decide_eq_true_eq, decide_eq_false_iff_not, Bool.not_eq_true', Bool.not_eq_false', Int.not_lt, Int.not_le] at hc3
    first
      | (exfalso; first | omega | (simp at *; done) | (simp at *; omega))
      | (
        refine SW.seq_k ?_
        intro K11 hK11
        refine SW.region _ _ _ _ ?_
        refine RL.step (Gd.none rfl) rfl rfl ?_
        refine NV.pure T (by conv => lhs; whnf; arg 1; whnf) ?_
        refine RL.step (Gd.none rfl) rfl rfl ?_
        first
          | refine NV.pure T (by conv => lhs; whnf; arg 1; whnf) ?_
          | refine NV.eqd T PL rfl rfl rfl Try.eqGuardType3 rfl ?_
        refine RL.step (Gd.none rfl) rfl rfl ?_
        refine NV.pure T (by conv => lhs; whnf; arg 1; whnf) ?_
        refine RL.split 29 rfl (fun hs0 => ?_) (fun hs0 => ?_)
        · try simp only [decide_eq_true_eq, decide_eq_false_iff_not, Bool.not_eq_true', Bool.not_eq_false', Int.not_lt, Int.not_le] at hs0
          first
            | (exfalso; first | omega | (simp at *; done) | (simp at *; omega))
            | (
              refine RL.step (Gd.yes rfl rfl) rfl rfl ?_
              first
                | refine NV.load_var1 T rfl rfl rfl rfl (by repeat first | exact At.head _ _ | apply At.tail) rfl ?_
                | refine NV.load_varN T rfl rfl rfl rfl rfl (by repeat first | exact At.head _ _ | apply At.tail) (by exact (rfl : _ = [_, _, _])) rfl ?_
                | refine NV.load_elem T rfl rfl rfl rfl (by assumption) (by first | exact map_get _ _ (by omega) | assumption) ?_
              refine RL.step (Gd.yes rfl rfl) rfl rfl ?_
              refine NV.pure T (rfl : _ = some (Value.agg #[_, _, _])) ?_
              refine RL.step (Gd.yes rfl rfl) rfl rfl ?_
              first
                | refine NV.pure T (by conv => lhs; whnf; arg 1; whnf) ?_
                | refine NV.eqd T PL rfl rfl rfl Try.eqGuardType25 rfl ?_
              refine RL.step (Gd.none rfl) rfl rfl ?_
              refine NV.pure T (by conv => lhs; whnf; arg 1; whnf) ?_
              refine RL.step (Gd.none rfl) rfl rfl ?_
              refine NV.pure T (by conv => lhs; whnf; arg 1; whnf) ?_
              refine RL.split 34 rfl (fun hs1 => ?_) (fun hs1 => ?_)
              · try simp only [decide_eq_true_eq, decide_eq_false_iff_not, Bool.not_eq_true', Bool.not_eq_false', Int.not_lt, Int.not_le] at hs1
                first
                  | (exfalso; first | omega | (simp at *; done) | (simp at *; omega))
                  | (
                    refine RL.guard_no rfl rfl rfl ?_
                    refine RL.guard_no rfl rfl rfl ?_
                    refine RL.guard_no rfl rfl rfl ?_
                    refine RL.guard_no rfl rfl rfl ?_
                    refine RL.guard_no rfl rfl rfl ?_
                    refine RL.guard_no rfl rfl rfl ?_
                    refine RL.guard_no rfl rfl rfl ?_
                    refine RL.step (Gd.none rfl) rfl rfl ?_
                    refine NV.pure T (by conv => lhs; whnf; arg 1; whnf) ?_
                    refine RL.step (Gd.none rfl) rfl rfl ?_
                    refine NV.pure T (by conv => lhs; whnf; arg 1; whnf) ?_
                    refine RL.nil _ _ _ _ ?_
                    refine hK11 _ _ _ ?_
                    refine SW.ret ?_
                    refine retQ.ret (H' := H) (RVs.tmp (by conv => lhs; whnf) RVs.nil) (fun w hw => Sat.sub (by repeat first | exact List.Sublist.refl _ | apply List.Sublist.cons_cons | apply List.Sublist.cons) hw) ?_
                    clear hK11 K11 hK10 K10 hK9 K9 hK8 K8 hK7 K7 hK6 K6 hK5 K5 hK4 K4 hK3 K3 hK2 K2 hK1 K1 hK0 K0
                    first | exact ⟨rfl, rfl⟩ | (refine ⟨bool1 ?_, rfl⟩; simp; done) | (refine ⟨bool1 ?_, rfl⟩; simp; omega)
                    )
              · try simp only [decide_eq_true_eq, decide_eq_false_iff_not, Bool.not_eq_true', Bool.not_eq_false', Int.not_lt, Int.not_le] at hs1
                first
                  | (exfalso; first | omega | (simp at *; done) | (simp at *; omega))
                  | (
                    refine RL.step (Gd.yes rfl rfl) rfl rfl ?_
                    refine NV.pure T (by conv => lhs; whnf; arg 1; whnf) ?_
                    refine RL.step (Gd.yes rfl rfl) rfl rfl ?_
                    refine NV.pure T (by conv => lhs; whnf; arg 1; whnf) ?_
                    refine RL.step (Gd.yes rfl rfl) rfl rfl ?_
                    refine NV.pure T (by conv => lhs; whnf; arg 1; whnf) ?_
                    refine RL.split 37 rfl (fun hs2 => ?_) (fun hs2 => ?_)
                    · try simp only [decide_eq_true_eq, decide_eq_false_iff_not, Bool.not_eq_true', Bool.not_eq_false', Int.not_lt, Int.not_le] at hs2
                      first
                        | (exfalso; first | omega | (simp at *; done) | (simp at *; omega))
                        | (
                          refine RL.step (Gd.yes rfl rfl) rfl rfl ?_
                          first
                            | refine NV.load_var1 T rfl rfl rfl rfl (by repeat first | exact At.head _ _ | apply At.tail) rfl ?_
                            | refine NV.load_varN T rfl rfl rfl rfl rfl (by repeat first | exact At.head _ _ | apply At.tail) (by exact (rfl : _ = [_, _, _])) rfl ?_
                            | refine NV.load_elem T rfl rfl rfl rfl (by assumption) (by first | exact map_get _ _ (by omega) | assumption) ?_
                          refine RL.step (Gd.yes rfl rfl) rfl rfl ?_
                          first
                            | refine NV.load_var1 T rfl rfl rfl rfl (by repeat first | exact At.head _ _ | apply At.tail) rfl ?_
                            | refine NV.load_varN T rfl rfl rfl rfl rfl (by repeat first | exact At.head _ _ | apply At.tail) (by exact (rfl : _ = [_, _, _])) rfl ?_
                            | refine NV.load_elem T rfl rfl rfl rfl (by assumption) (by first | exact map_get _ _ (by omega) | assumption) ?_
                          refine RL.step (Gd.yes rfl rfl) rfl rfl ?_
                          first
                            | refine NV.pure T (by conv => lhs; whnf; arg 1; whnf) ?_
                            | refine NV.eqd T PL rfl rfl rfl Try.eqGuardType25 rfl ?_
                          refine RL.step (Gd.yes rfl rfl) rfl rfl ?_
                          refine NV.pure T (by conv => lhs; whnf; arg 1; whnf) ?_
                          refine RL.step (Gd.none rfl) rfl rfl ?_
                          refine NV.pure T (by conv => lhs; whnf; arg 1; whnf) ?_
                          refine RL.step (Gd.none rfl) rfl rfl ?_
                          refine NV.pure T (by conv => lhs; whnf; arg 1; whnf) ?_
                          refine RL.nil _ _ _ _ ?_
                          refine hK11 _ _ _ ?_
                          refine SW.ret ?_
                          refine retQ.ret (H' := H) (RVs.tmp (by conv => lhs; whnf) RVs.nil) (fun w hw => Sat.sub (by repeat first | exact List.Sublist.refl _ | apply List.Sublist.cons_cons | apply List.Sublist.cons) hw) ?_
                          clear hK11 K11 hK10 K10 hK9 K9 hK8 K8 hK7 K7 hK6 K6 hK5 K5 hK4 K4 hK3 K3 hK2 K2 hK1 K1 hK0 K0
                          first | exact ⟨rfl, rfl⟩ | (refine ⟨bool1 ?_, rfl⟩; simp; done) | (refine ⟨bool1 ?_, rfl⟩; simp; omega)
                          )
                    · try simp only [decide_eq_true_eq, decide_eq_false_iff_not, Bool.not_eq_true', Bool.not_eq_false', Int.not_lt, Int.not_le] at hs2
                      first
                        | (exfalso; first | omega | (simp at *; done) | (simp at *; omega))
                        | (
                          refine RL.guard_no rfl rfl rfl ?_
                          refine RL.guard_no rfl rfl rfl ?_
                          refine RL.guard_no rfl rfl rfl ?_
                          refine RL.step (Gd.yes rfl rfl) rfl rfl ?_
                          refine NV.pure T (by conv => lhs; whnf; arg 1; whnf) ?_
                          refine RL.step (Gd.none rfl) rfl rfl ?_
                          refine NV.pure T (by conv => lhs; whnf; arg 1; whnf) ?_
                          refine RL.step (Gd.none rfl) rfl rfl ?_
                          refine NV.pure T (by conv => lhs; whnf; arg 1; whnf) ?_
                          refine RL.nil _ _ _ _ ?_
                          refine hK11 _ _ _ ?_
                          refine SW.ret ?_
                          refine retQ.ret (H' := H) (RVs.tmp (by conv => lhs; whnf) RVs.nil) (fun w hw => Sat.sub (by repeat first | exact List.Sublist.refl _ | apply List.Sublist.cons_cons | apply List.Sublist.cons) hw) ?_
                          clear hK11 K11 hK10 K10 hK9 K9 hK8 K8 hK7 K7 hK6 K6 hK5 K5 hK4 K4 hK3 K3 hK2 K2 hK1 K1 hK0 K0
                          first | exact ⟨rfl, rfl⟩ | (refine ⟨bool1 ?_, rfl⟩; simp; done) | (refine ⟨bool1 ?_, rfl⟩; simp; omega)
                          )
                    )
              )
        · try simp only [decide_eq_true_eq, decide_eq_false_iff_not, Bool.not_eq_true', Bool.not_eq_false', Int.not_lt, Int.not_le] at hs0
          first
            | (exfalso; first | omega | (simp at *; done) | (simp at *; omega))
            | (
              refine RL.guard_no rfl rfl rfl ?_
              refine RL.guard_no rfl rfl rfl ?_
              refine RL.guard_no rfl rfl rfl ?_
              refine RL.step (Gd.none rfl) rfl rfl ?_
              refine NV.pure T (by conv => lhs; whnf; arg 1; whnf) ?_
              refine RL.step (Gd.none rfl) rfl rfl ?_
              refine NV.pure T (by conv => lhs; whnf; arg 1; whnf) ?_
              refine RL.step (Gd.yes rfl rfl) rfl rfl ?_
              refine NV.pure T (by conv => lhs; whnf; arg 1; whnf) ?_
              refine RL.step (Gd.yes rfl rfl) rfl rfl ?_
              refine NV.pure T (by conv => lhs; whnf; arg 1; whnf) ?_
              refine RL.step (Gd.yes rfl rfl) rfl rfl ?_
              refine NV.pure T (by conv => lhs; whnf; arg 1; whnf) ?_
              refine RL.split 37 rfl (fun hs3 => ?_) (fun hs3 => ?_)
              · try simp only [decide_eq_true_eq, decide_eq_false_iff_not, Bool.not_eq_true', Bool.not_eq_false', Int.not_lt, Int.not_le] at hs3
                first
                  | (exfalso; first | omega | (simp at *; done) | (simp at *; omega))
                  | (
                    refine RL.step (Gd.yes rfl rfl) rfl rfl ?_
                    first
                      | refine NV.load_var1 T rfl rfl rfl rfl (by repeat first | exact At.head _ _ | apply At.tail) rfl ?_
                      | refine NV.load_varN T rfl rfl rfl rfl rfl (by repeat first | exact At.head _ _ | apply At.tail) (by exact (rfl : _ = [_, _, _])) rfl ?_
                      | refine NV.load_elem T rfl rfl rfl rfl (by assumption) (by first | exact map_get _ _ (by omega) | assumption) ?_
                    refine RL.step (Gd.yes rfl rfl) rfl rfl ?_
                    first
                      | refine NV.load_var1 T rfl rfl rfl rfl (by repeat first | exact At.head _ _ | apply At.tail) rfl ?_
                      | refine NV.load_varN T rfl rfl rfl rfl rfl (by repeat first | exact At.head _ _ | apply At.tail) (by exact (rfl : _ = [_, _, _])) rfl ?_
                      | refine NV.load_elem T rfl rfl rfl rfl (by assumption) (by first | exact map_get _ _ (by omega) | assumption) ?_
                    refine RL.step (Gd.yes rfl rfl) rfl rfl ?_
                    first
                      | refine NV.pure T (by conv => lhs; whnf; arg 1; whnf) ?_
                      | refine NV.eqd T PL rfl rfl rfl Try.eqGuardType25 rfl ?_
                    refine RL.step (Gd.yes rfl rfl) rfl rfl ?_
                    refine NV.pure T (by conv => lhs; whnf; arg 1; whnf) ?_
                    refine RL.step (Gd.none rfl) rfl rfl ?_
                    refine NV.pure T (by conv => lhs; whnf; arg 1; whnf) ?_
                    refine RL.step (Gd.none rfl) rfl rfl ?_
                    refine NV.pure T (by conv => lhs; whnf; arg 1; whnf) ?_
                    refine RL.nil _ _ _ _ ?_
                    refine hK11 _ _ _ ?_
                    refine SW.ret ?_
                    refine retQ.ret (H' := H) (RVs.tmp (by conv => lhs; whnf) RVs.nil) (fun w hw => Sat.sub (by repeat first | exact List.Sublist.refl _ | apply List.Sublist.cons_cons | apply List.Sublist.cons) hw) ?_
                    clear hK11 K11 hK10 K10 hK9 K9 hK8 K8 hK7 K7 hK6 K6 hK5 K5 hK4 K4 hK3 K3 hK2 K2 hK1 K1 hK0 K0
                    first | exact ⟨rfl, rfl⟩ | (refine ⟨bool1 ?_, rfl⟩; simp; done) | (refine ⟨bool1 ?_, rfl⟩; simp; omega)
                    )
              · try simp only [decide_eq_true_eq, decide_eq_false_iff_not, Bool.not_eq_true', Bool.not_eq_false', Int.not_lt, Int.not_le] at hs3
                first
                  | (exfalso; first | omega | (simp at *; done) | (simp at *; omega))
                  | (
                    refine RL.guard_no rfl rfl rfl ?_
                    refine RL.guard_no rfl rfl rfl ?_
                    refine RL.guard_no rfl rfl rfl ?_
                    refine RL.step (Gd.yes rfl rfl) rfl rfl ?_
                    refine NV.pure T (by conv => lhs; whnf; arg 1; whnf) ?_
                    refine RL.step (Gd.none rfl) rfl rfl ?_
                    refine NV.pure T (by conv => lhs; whnf; arg 1; whnf) ?_
                    refine RL.step (Gd.none rfl) rfl rfl ?_
                    refine NV.pure T (by conv => lhs; whnf; arg 1; whnf) ?_
                    refine RL.nil _ _ _ _ ?_
                    refine hK11 _ _ _ ?_
                    refine SW.ret ?_
                    refine retQ.ret (H' := H) (RVs.tmp (by conv => lhs; whnf) RVs.nil) (fun w hw => Sat.sub (by repeat first | exact List.Sublist.refl _ | apply List.Sublist.cons_cons | apply List.Sublist.cons) hw) ?_
                    clear hK11 K11 hK10 K10 hK9 K9 hK8 K8 hK7 K7 hK6 K6 hK5 K5 hK4 K4 hK3 K3 hK2 K2 hK1 K1 hK0 K0
                    first | exact ⟨rfl, rfl⟩ | (refine ⟨bool1 ?_, rfl⟩; simp; done) | (refine ⟨bool1 ?_, rfl⟩; simp; omega)
                    )
              )
        )
  · try simp only [decide_eq_true_eq, decide_eq_false_iff_not, Bool.not_eq_true', Bool.not_eq_false', Int.not_lt, Int.not_le] at hc3
    first
      | (exfalso; first | omega | (simp at *; done) | (simp at *; omega))
      | (
        refine SW.skip ?_
        refine hK9 _ _ _ ?_
        refine SW.seq_k ?_
        intro K12 hK12
        refine SW.seq_k ?_
        intro K13 hK13
        refine SW.region _ _ _ _ ?_
        refine RL.step (Gd.none rfl) rfl rfl ?_
        refine NV.pure T (by conv => lhs; whnf; arg 1; whnf) ?_
        refine RL.step (Gd.none rfl) rfl rfl ?_
        first
          | refine NV.load_var1 T rfl rfl rfl rfl (by repeat first | exact At.head _ _ | apply At.tail) rfl ?_
          | refine NV.load_varN T rfl rfl rfl rfl rfl (by repeat first | exact At.head _ _ | apply At.tail) (by exact (rfl : _ = [_])) rfl ?_
          | refine NV.load_elem T rfl rfl rfl rfl (by assumption) (by first | exact map_get _ _ (by omega) | assumption) ?_
        refine RL.step (Gd.none rfl) rfl rfl ?_
        refine NV.pure T (by conv => lhs; whnf; arg 1; whnf) ?_
        refine RL.step (Gd.none rfl) rfl rfl ?_
        first
          | refine NV.load_var1 T rfl rfl rfl rfl (by repeat first | exact At.head _ _ | apply At.tail) rfl ?_
          | refine NV.load_varN T rfl rfl rfl rfl rfl (by repeat first | exact At.head _ _ | apply At.tail) (by exact (rfl : _ = [_])) rfl ?_
          | refine NV.load_elem T rfl rfl rfl rfl (by assumption) (by first | exact map_get _ _ (by omega) | assumption) ?_
        refine RL.step (Gd.none rfl) rfl rfl ?_
        first
          | refine NV.arith rfl rfl rfl rfl (by omega) (by omega) ?_
          | refine NV.pure T (by conv => lhs; whnf; arg 1; whnf) ?_
        refine RL.step (Gd.none rfl) rfl rfl ?_
        refine NV.pure T (by conv => lhs; whnf; arg 1; whnf) ?_
        refine RL.step (Gd.none rfl) rfl rfl ?_
        refine NV.pure T (by conv => lhs; whnf; arg 1; whnf) ?_
        refine RL.split 49 rfl (fun hs4 => ?_) (fun hs4 => ?_)
        · try simp only [decide_eq_true_eq, decide_eq_false_iff_not, Bool.not_eq_true', Bool.not_eq_false', Int.not_lt, Int.not_le] at hs4
          first
            | (exfalso; first | omega | (simp at *; done) | (simp at *; omega))
            | (
              refine RL.guard_no rfl rfl rfl ?_
              refine RL.guard_no rfl rfl rfl ?_
              refine RL.guard_no rfl rfl rfl ?_
              refine RL.guard_no rfl rfl rfl ?_
              refine RL.guard_no rfl rfl rfl ?_
              refine RL.guard_no rfl rfl rfl ?_
              refine RL.step (Gd.none rfl) rfl rfl ?_
              refine NV.pure T (by conv => lhs; whnf; arg 1; whnf) ?_
              refine RL.step (Gd.none rfl) rfl rfl ?_
              refine NV.pure T (by conv => lhs; whnf; arg 1; whnf) ?_
              refine RL.guard_no rfl rfl rfl ?_
              refine RL.guard_no rfl rfl rfl ?_
              refine RL.guard_no rfl rfl rfl ?_
              refine RL.guard_no rfl rfl rfl ?_
              refine RL.guard_no rfl rfl rfl ?_
              refine RL.guard_no rfl rfl rfl ?_
              refine RL.guard_no rfl rfl rfl ?_
              refine RL.guard_no rfl rfl rfl ?_
              refine RL.guard_no rfl rfl rfl ?_
              refine RL.step (Gd.none rfl) rfl rfl ?_
              refine NV.pure T (by conv => lhs; whnf; arg 1; whnf) ?_
              refine RL.step (Gd.none rfl) rfl rfl ?_
              refine NV.pure T (by conv => lhs; whnf; arg 1; whnf) ?_
              refine RL.guard_no rfl rfl rfl ?_
              refine RL.guard_no rfl rfl rfl ?_
              refine RL.guard_no rfl rfl rfl ?_
              refine RL.guard_no rfl rfl rfl ?_
              refine RL.guard_no rfl rfl rfl ?_
              refine RL.guard_no rfl rfl rfl ?_
              refine RL.guard_no rfl rfl rfl ?_
              refine RL.guard_no rfl rfl rfl ?_
              refine RL.guard_no rfl rfl rfl ?_
              refine RL.step (Gd.none rfl) rfl rfl ?_
              refine NV.pure T (by conv => lhs; whnf; arg 1; whnf) ?_
              refine RL.nil _ _ _ _ ?_
              refine hK13 _ _ _ ?_
              refine SW.cond_t rfl ?_
              refine SW.seq_k ?_
              intro K14 hK14
              refine SW.region _ _ _ _ ?_
              refine RL.step (Gd.none rfl) rfl rfl ?_
              refine NV.pure T (by conv => lhs; whnf; arg 1; whnf) ?_
              refine RL.nil _ _ _ _ ?_
              refine hK14 _ _ _ ?_
              refine SW.ret ?_
              refine retQ.ret (H' := H) (RVs.tmp (by conv => lhs; whnf) RVs.nil) (fun w hw => Sat.sub (by repeat first | exact List.Sublist.refl _ | apply List.Sublist.cons_cons | apply List.Sublist.cons) hw) ?_
              clear hK14 K14 hK13 K13 hK12 K12 hK10 K10 hK9 K9 hK8 K8 hK7 K7 hK6 K6 hK5 K5 hK4 K4 hK3 K3 hK2 K2 hK1 K1 hK0 K0
              first | exact ⟨rfl, rfl⟩ | (refine ⟨bool1 ?_, rfl⟩; simp; done) | (refine ⟨bool1 ?_, rfl⟩; simp; omega)
              )
        · try simp only [decide_eq_true_eq, decide_eq_false_iff_not, Bool.not_eq_true', Bool.not_eq_false', Int.not_lt, Int.not_le] at hs4
          first
            | (exfalso; first | omega | (simp at *; done) | (simp at *; omega))
            | (
              refine RL.step (Gd.yes rfl rfl) rfl rfl ?_
              refine NV.pure T (by conv => lhs; whnf; arg 1; whnf) ?_
              refine RL.step (Gd.yes rfl rfl) rfl rfl ?_
              first
                | refine NV.load_var1 T rfl rfl rfl rfl (by repeat first | exact At.head _ _ | apply At.tail) rfl ?_
                | refine NV.load_varN T rfl rfl rfl rfl rfl (by repeat first | exact At.head _ _ | apply At.tail) (by exact (rfl : _ = [_])) rfl ?_
                | refine NV.load_elem T rfl rfl rfl rfl (by assumption) (by first | exact map_get _ _ (by omega) | assumption) ?_
              refine RL.step (Gd.yes rfl rfl) rfl rfl ?_
              refine NV.pure T (by conv => lhs; whnf; arg 1; whnf) ?_
              refine RL.step (Gd.yes rfl rfl) rfl rfl ?_
              first
                | refine NV.load_var1 T rfl rfl rfl rfl (by repeat first | exact At.head _ _ | apply At.tail) rfl ?_
                | refine NV.load_varN T rfl rfl rfl rfl rfl (by repeat first | exact At.head _ _ | apply At.tail) (by exact (rfl : _ = [_])) rfl ?_
                | refine NV.load_elem T rfl rfl rfl rfl (by assumption) (by first | exact map_get _ _ (by omega) | assumption) ?_
              refine RL.step (Gd.yes rfl rfl) rfl rfl ?_
              first
                | refine NV.arith rfl rfl rfl rfl (by omega) (by omega) ?_
                | refine NV.pure T (by conv => lhs; whnf; arg 1; whnf) ?_
              refine RL.step (Gd.yes rfl rfl) rfl rfl ?_
              refine NV.pure T (by conv => lhs; whnf; arg 1; whnf) ?_
              refine RL.step (Gd.none rfl) rfl rfl ?_
              refine NV.pure T (by conv => lhs; whnf; arg 1; whnf) ?_
              refine RL.step (Gd.none rfl) rfl rfl ?_
              refine NV.pure T (by conv => lhs; whnf; arg 1; whnf) ?_
              refine RL.split 57 rfl (fun hs5 => ?_) (fun hs5 => ?_)
              · try simp only [decide_eq_true_eq, decide_eq_false_iff_not, Bool.not_eq_true', Bool.not_eq_false', Int.not_lt, Int.not_le] at hs5
                first
                  | (exfalso; first | omega | (simp at *; done) | (simp at *; omega))
                  | (
                    refine RL.guard_no rfl rfl rfl ?_
                    refine RL.guard_no rfl rfl rfl ?_
                    refine RL.guard_no rfl rfl rfl ?_
                    refine RL.guard_no rfl rfl rfl ?_
                    refine RL.guard_no rfl rfl rfl ?_
                    refine RL.guard_no rfl rfl rfl ?_
                    refine RL.guard_no rfl rfl rfl ?_
                    refine RL.guard_no rfl rfl rfl ?_
                    refine RL.guard_no rfl rfl rfl ?_
                    refine RL.step (Gd.none rfl) rfl rfl ?_
                    refine NV.pure T (by conv => lhs; whnf; arg 1; whnf) ?_
                    refine RL.step (Gd.none rfl) rfl rfl ?_
                    refine NV.pure T (by conv => lhs; whnf; arg 1; whnf) ?_
                    refine RL.guard_no rfl rfl rfl ?_
                    refine RL.guard_no rfl rfl rfl ?_
                    refine RL.guard_no rfl rfl rfl ?_
                    refine RL.guard_no rfl rfl rfl ?_
                    refine RL.guard_no rfl rfl rfl ?_
                    refine RL.guard_no rfl rfl rfl ?_
                    refine RL.guard_no rfl rfl rfl ?_
                    refine RL.guard_no rfl rfl rfl ?_
                    refine RL.guard_no rfl rfl rfl ?_
                    refine RL.step (Gd.none rfl) rfl rfl ?_
                    refine NV.pure T (by conv => lhs; whnf; arg 1; whnf) ?_
                    refine RL.nil _ _ _ _ ?_
                    refine hK13 _ _ _ ?_
                    refine SW.cond_t rfl ?_
                    refine SW.seq_k ?_
                    intro K15 hK15
                    refine SW.region _ _ _ _ ?_
                    refine RL.step (Gd.none rfl) rfl rfl ?_
                    refine NV.pure T (by conv => lhs; whnf; arg 1; whnf) ?_
                    refine RL.nil _ _ _ _ ?_
                    refine hK15 _ _ _ ?_
                    refine SW.ret ?_
                    refine retQ.ret (H' := H) (RVs.tmp (by conv => lhs; whnf) RVs.nil) (fun w hw => Sat.sub (by repeat first | exact List.Sublist.refl _ | apply List.Sublist.cons_cons | apply List.Sublist.cons) hw) ?_
                    clear hK15 K15 hK13 K13 hK12 K12 hK10 K10 hK9 K9 hK8 K8 hK7 K7 hK6 K6 hK5 K5 hK4 K4 hK3 K3 hK2 K2 hK1 K1 hK0 K0
                    first | exact ⟨rfl, rfl⟩ | (refine ⟨bool1 ?_, rfl⟩; simp; done) | (refine ⟨bool1 ?_, rfl⟩; simp; omega)
                    )
              · try simp only [decide_eq_true_eq, decide_eq_false_iff_not, Bool.not_eq_true', Bool.not_eq_false', Int.not_lt, Int.not_le] at hs5
                first
                  | (exfalso; first | omega | (simp at *; done) | (simp at *; omega))
                  | (
                    refine RL.step (Gd.yes rfl rfl) rfl rfl ?_
                    refine NV.pure T (by conv => lhs; whnf; arg 1; whnf) ?_
                    refine RL.step (Gd.yes rfl rfl) rfl rfl ?_
                    first
                      | refine NV.load_var1 T rfl rfl rfl rfl (by repeat first | exact At.head _ _ | apply At.tail) rfl ?_
                      | refine NV.load_varN T rfl rfl rfl rfl rfl (by repeat first | exact At.head _ _ | apply At.tail) (by exact (rfl : _ = [_])) rfl ?_
                      | refine NV.load_elem T rfl rfl rfl rfl (by assumption) (by first | exact map_get _ _ (by omega) | assumption) ?_
                    refine RL.step (Gd.yes rfl rfl) rfl rfl ?_
                    refine NV.pure T (by conv => lhs; whnf; arg 1; whnf) ?_
                    refine RL.step (Gd.yes rfl rfl) rfl rfl ?_
                    first
                      | refine NV.load_var1 T rfl rfl rfl rfl (by repeat first | exact At.head _ _ | apply At.tail) rfl ?_
                      | refine NV.load_varN T rfl rfl rfl rfl rfl (by repeat first | exact At.head _ _ | apply At.tail) (by exact (rfl : _ = [_])) rfl ?_
                      | refine NV.load_elem T rfl rfl rfl rfl (by assumption) (by first | exact map_get _ _ (by omega) | assumption) ?_
                    refine RL.step (Gd.yes rfl rfl) rfl rfl ?_
                    refine NV.pure T (by conv => lhs; whnf; arg 1; whnf) ?_
                    refine RL.step (Gd.yes rfl rfl) rfl rfl ?_
                    refine NV.pure T (by conv => lhs; whnf; arg 1; whnf) ?_
                    refine RL.split 63 rfl (fun hs6 => ?_) (fun hs6 => ?_)
                    · try simp only [decide_eq_true_eq, decide_eq_false_iff_not, Bool.not_eq_true', Bool.not_eq_false', Int.not_lt, Int.not_le] at hs6
                      first
                        | (exfalso; first | omega | (simp at *; done) | (simp at *; omega))
                        | (
                          refine RL.step (Gd.yes rfl rfl) rfl rfl ?_
                          refine NV.pure T (by conv => lhs; whnf; arg 1; whnf) ?_
                          refine RL.step (Gd.yes rfl rfl) rfl rfl ?_
                          refine NV.pure T (by conv => lhs; whnf; arg 1; whnf) ?_
                          refine RL.step (Gd.yes rfl rfl) rfl rfl ?_
                          refine NV.pure T (by conv => lhs; whnf; arg 1; whnf) ?_
                          refine RL.step (Gd.none rfl) rfl rfl ?_
                          refine NV.pure T (by conv => lhs; whnf; arg 1; whnf) ?_
                          refine RL.step (Gd.none rfl) rfl rfl ?_
                          refine NV.pure T (by conv => lhs; whnf; arg 1; whnf) ?_
                          refine RL.split 68 rfl (fun hs7 => ?_) (fun hs7 => ?_)
                          · try simp only [decide_eq_true_eq, decide_eq_false_iff_not, Bool.not_eq_true', Bool.not_eq_false', Int.not_lt, Int.not_le] at hs7
                            first
                              | (exfalso; first | omega | (simp at *; done) | (simp at *; omega))
                              | (
                                refine RL.guard_no rfl rfl rfl ?_
                                refine RL.guard_no rfl rfl rfl ?_
                                refine RL.guard_no rfl rfl rfl ?_
                                refine RL.guard_no rfl rfl rfl ?_
                                refine RL.guard_no rfl rfl rfl ?_
                                refine RL.guard_no rfl rfl rfl ?_
                                refine RL.guard_no rfl rfl rfl ?_
                                refine RL.guard_no rfl rfl rfl ?_
                                refine RL.guard_no rfl rfl rfl ?_
                                refine RL.step (Gd.none rfl) rfl rfl ?_
                                refine NV.pure T (by conv => lhs; whnf; arg 1; whnf) ?_
                                refine RL.nil _ _ _ _ ?_
                                refine hK13 _ _ _ ?_
                                refine SW.cond_t rfl ?_
                                refine SW.seq_k ?_
                                intro K16 hK16
                                refine SW.region _ _ _ _ ?_
                                refine RL.step (Gd.none rfl) rfl rfl ?_
                                refine NV.pure T (by conv => lhs; whnf; arg 1; whnf) ?_
                                refine RL.nil _ _ _ _ ?_
                                refine hK16 _ _ _ ?_
                                refine SW.ret ?_
                                refine retQ.ret (H' := H) (RVs.tmp (by conv => lhs; whnf) RVs.nil) (fun w hw => Sat.sub (by repeat first | exact List.Sublist.refl _ | apply List.Sublist.cons_cons | apply List.Sublist.cons) hw) ?_
                                clear hK16 K16 hK13 K13 hK12 K12 hK10 K10 hK9 K9 hK8 K8 hK7 K7 hK6 K6 hK5 K5 hK4 K4 hK3 K3 hK2 K2 hK1 K1 hK0 K0
                                first | exact ⟨rfl, rfl⟩ | (refine ⟨bool1 ?_, rfl⟩; simp; done) | (refine ⟨bool1 ?_, rfl⟩; simp; omega)
                                )
                          · try simp only [decide_eq_true_eq, decide_eq_false_iff_not, Bool.not_eq_true', Bool.not_eq_false', Int.not_lt, Int.not_le] at hs7
                            first
                              | (exfalso; first | omega | (simp at *; done) | (simp at *; omega))
                              | (
                                refine RL.step (Gd.yes rfl rfl) rfl rfl ?_
                                refine NV.pure T (by conv => lhs; whnf; arg 1; whnf) ?_
                                refine RL.step (Gd.yes rfl rfl) rfl rfl ?_
                                first
                                  | refine NV.load_var1 T rfl rfl rfl rfl (by repeat first | exact At.head _ _ | apply At.tail) rfl ?_
                                  | refine NV.load_varN T rfl rfl rfl rfl rfl (by repeat first | exact At.head _ _ | apply At.tail) (by exact (rfl : _ = [_])) rfl ?_
                                  | refine NV.load_elem T rfl rfl rfl rfl (by assumption) (by first | exact map_get _ _ (by omega) | assumption) ?_
                                refine RL.step (Gd.yes rfl rfl) rfl rfl ?_
                                refine NV.pure T (by conv => lhs; whnf; arg 1; whnf) ?_
                                refine RL.step (Gd.yes rfl rfl) rfl rfl ?_
                                first
                                  | refine NV.load_var1 T rfl rfl rfl rfl (by repeat first | exact At.head _ _ | apply At.tail) rfl ?_
                                  | refine NV.load_varN T rfl rfl rfl rfl rfl (by repeat first | exact At.head _ _ | apply At.tail) (by exact (rfl : _ = [_])) rfl ?_
                                  | refine NV.load_elem T rfl rfl rfl rfl (by assumption) (by first | exact map_get _ _ (by omega) | assumption) ?_
                                refine RL.step (Gd.yes rfl rfl) rfl rfl ?_
                                refine NV.pure T (by conv => lhs; whnf; arg 1; whnf) ?_
                                refine RL.step (Gd.yes rfl rfl) rfl rfl ?_
                                refine NV.pure T (by conv => lhs; whnf; arg 1; whnf) ?_
                                refine RL.split 74 rfl (fun hs8 => ?_) (fun hs8 => ?_)
                                · try simp only [decide_eq_true_eq, decide_eq_false_iff_not, Bool.not_eq_true', Bool.not_eq_false', Int.not_lt, Int.not_le] at hs8
                                  first
                                    | (exfalso; first | omega | (simp at *; done) | (simp at *; omega))
                                    | (
                                      refine RL.step (Gd.yes rfl rfl) rfl rfl ?_
                                      refine NV.pure T (by conv => lhs; whnf; arg 1; whnf) ?_
                                      refine RL.step (Gd.yes rfl rfl) rfl rfl ?_
                                      refine NV.pure T (by conv => lhs; whnf; arg 1; whnf) ?_
                                      refine RL.step (Gd.yes rfl rfl) rfl rfl ?_
                                      refine NV.pure T (by conv => lhs; whnf; arg 1; whnf) ?_
                                      refine RL.step (Gd.none rfl) rfl rfl ?_
                                      refine NV.pure T (by conv => lhs; whnf; arg 1; whnf) ?_
                                      refine RL.nil _ _ _ _ ?_
                                      refine hK13 _ _ _ ?_
                                      refine SW.cond rfl (fun hc4 => ?_) (fun hc4 => ?_)
                                      · try simp only [decide_eq_true_eq, decide_eq_false_iff_not, Bool.not_eq_true', Bool.not_eq_false', Int.not_lt, Int.not_le] at hc4
                                        first
                                          | (exfalso; first | omega | (simp at *; done) | (simp at *; omega))
                                          | (
                                            refine SW.seq_k ?_
                                            intro K17 hK17
                                            refine SW.region _ _ _ _ ?_
                                            refine RL.step (Gd.none rfl) rfl rfl ?_
                                            refine NV.pure T (by conv => lhs; whnf; arg 1; whnf) ?_
                                            refine RL.nil _ _ _ _ ?_
                                            refine hK17 _ _ _ ?_
                                            refine SW.ret ?_
                                            refine retQ.ret (H' := H) (RVs.tmp (by conv => lhs; whnf) RVs.nil) (fun w hw => Sat.sub (by repeat first | exact List.Sublist.refl _ | apply List.Sublist.cons_cons | apply List.Sublist.cons) hw) ?_
                                            clear hK17 K17 hK13 K13 hK12 K12 hK10 K10 hK9 K9 hK8 K8 hK7 K7 hK6 K6 hK5 K5 hK4 K4 hK3 K3 hK2 K2 hK1 K1 hK0 K0
                                            first | exact ⟨rfl, rfl⟩ | (refine ⟨bool1 ?_, rfl⟩; simp; done) | (refine ⟨bool1 ?_, rfl⟩; simp; omega)
                                            )
                                      · try simp only [decide_eq_true_eq, decide_eq_false_iff_not, Bool.not_eq_true', Bool.not_eq_false', Int.not_lt, Int.not_le] at hc4
                                        first
                                          | (exfalso; first | omega | (simp at *; done) | (simp at *; omega))
                                          | (
                                            refine SW.skip ?_
                                            refine hK12 _ _ _ ?_
                                            refine SW.seq_k ?_
                                            intro K18 hK18
                                            refine SW.region _ _ _ _ ?_
                                            refine RL.step (Gd.none rfl) rfl rfl ?_
                                            refine NV.pure T (by conv => lhs; whnf; arg 1; whnf) ?_
                                            refine RL.step (Gd.none rfl) rfl rfl ?_
                                            first
                                              | refine NV.load_var1 T rfl rfl rfl rfl (by repeat first | exact At.head _ _ | apply At.tail) rfl ?_
                                              | refine NV.load_varN T rfl rfl rfl rfl rfl (by repeat first | exact At.head _ _ | apply At.tail) (by exact (rfl : _ = [_])) rfl ?_
                                              | refine NV.load_elem T rfl rfl rfl rfl (by assumption) (by first | exact map_get _ _ (by omega) | assumption) ?_
                                            refine RL.step (Gd.none rfl) rfl rfl ?_
                                            refine NV.pure T (by conv => lhs; whnf; arg 1; whnf) ?_
                                            refine RL.step (Gd.none rfl) rfl rfl ?_
                                            first
                                              | refine NV.load_var1 T rfl rfl rfl rfl (by repeat first | exact At.head _ _ | apply At.tail) rfl ?_
                                              | refine NV.load_varN T rfl rfl rfl rfl rfl (by repeat first | exact At.head _ _ | apply At.tail) (by exact (rfl : _ = [_])) rfl ?_
                                              | refine NV.load_elem T rfl rfl rfl rfl (by assumption) (by first | exact map_get _ _ (by omega) | assumption) ?_
                                            refine RL.step (Gd.none rfl) rfl rfl ?_
                                            refine NV.pure T (by conv => lhs; whnf; arg 1; whnf) ?_
                                            refine RL.step (Gd.none rfl) rfl rfl ?_
                                            refine NV.pure T (by conv => lhs; whnf; arg 1; whnf) ?_
                                            refine RL.step (Gd.none rfl) rfl rfl ?_
                                            first
                                              | refine NV.pure T (by conv => lhs; whnf; arg 1; whnf) ?_
                                              | refine NV.eqd T PL rfl rfl rfl Try.eqGuardType3 rfl ?_
                                            refine RL.step (Gd.none rfl) rfl rfl ?_
                                            refine NV.pure T (by conv => lhs; whnf; arg 1; whnf) ?_
                                            refine RL.split 86 rfl (fun hs9 => ?_) (fun hs9 => ?_)
                                            · try simp only [decide_eq_true_eq, decide_eq_false_iff_not, Bool.not_eq_true', Bool.not_eq_false', Int.not_lt, Int.not_le] at hs9
                                              first
                                                | (exfalso; first | omega | (simp at *; done) | (simp at *; omega))
                                                | (
                                                  refine RL.guard_no rfl rfl rfl ?_
                                                  refine RL.guard_no rfl rfl rfl ?_
                                                  refine RL.guard_no rfl rfl rfl ?_
                                                  refine RL.guard_no rfl rfl rfl ?_
                                                  refine RL.guard_no rfl rfl rfl ?_
                                                  refine RL.guard_no rfl rfl rfl ?_
                                                  refine RL.guard_no rfl rfl rfl ?_
                                                  refine RL.guard_no rfl rfl rfl ?_
                                                  refine RL.guard_no rfl rfl rfl ?_
                                                  refine RL.guard_no rfl rfl rfl ?_
                                                  refine RL.guard_no rfl rfl rfl ?_
                                                  refine RL.guard_no rfl rfl rfl ?_
                                                  refine RL.step (Gd.none rfl) rfl rfl ?_
                                                  refine NV.pure T (by conv => lhs; whnf; arg 1; whnf) ?_
                                                  refine RL.step (Gd.none rfl) rfl rfl ?_
                                                  first
                                                    | refine NV.pure T (by conv => lhs; whnf; arg 1; whnf) ?_
                                                    | refine NV.eqd T PL rfl rfl rfl Try.eqGuardType4 rfl ?_
                                                  refine RL.step (Gd.none rfl) rfl rfl ?_
                                                  refine NV.pure T (by conv => lhs; whnf; arg 1; whnf) ?_
                                                  refine RL.nil _ _ _ _ ?_
                                                  refine hK18 _ _ _ ?_
                                                  refine SW.ret ?_
                                                  refine retQ.ret (H' := H) (RVs.tmp (by conv => lhs; whnf) RVs.nil) (fun w hw => Sat.sub (by repeat first | exact List.Sublist.refl _ | apply List.Sublist.cons_cons | apply List.Sublist.cons) hw) ?_
                                                  clear hK18 K18 hK13 K13 hK12 K12 hK10 K10 hK9 K9 hK8 K8 hK7 K7 hK6 K6 hK5 K5 hK4 K4 hK3 K3 hK2 K2 hK1 K1 hK0 K0
                                                  first | exact ⟨rfl, rfl⟩ | (refine ⟨bool1 ?_, rfl⟩; simp; done) | (refine ⟨bool1 ?_, rfl⟩; simp; omega)
                                                  )
                                            · try simp only [decide_eq_true_eq, decide_eq_false_iff_not, Bool.not_eq_true', Bool.not_eq_false', Int.not_lt, Int.not_le] at hs9
                                              first
                                                | (exfalso; first | omega | (simp at *; done) | (simp at *; omega))
                                                | (
                                                  refine RL.step (Gd.yes rfl rfl) rfl rfl ?_
                                                  refine NV.pure T (by conv => lhs; whnf; arg 1; whnf) ?_
                                                  refine RL.step (Gd.yes rfl rfl) rfl rfl ?_
                                                  first
                                                    | refine NV.pure T (by conv => lhs; whnf; arg 1; whnf) ?_
                                                    | refine NV.eqd T PL rfl rfl rfl Try.eqGuardType3 rfl ?_
                                                  refine RL.step (Gd.yes rfl rfl) rfl rfl ?_
                                                  refine NV.pure T (by conv => lhs; whnf; arg 1; whnf) ?_
                                                  refine RL.split 89 rfl (fun hs10 => ?_) (fun hs10 => ?_)
                                                  · try simp only [decide_eq_true_eq, decide_eq_false_iff_not, Bool.not_eq_true', Bool.not_eq_false', Int.not_lt, Int.not_le] at hs10
                                                    first
                                                      | (exfalso; first | omega | (simp at *; done) | (simp at *; omega))
                                                      | (
                                                        refine RL.step (Gd.yes rfl rfl) rfl rfl ?_
                                                        refine NV.pure T (by conv => lhs; whnf; arg 1; whnf) ?_
                                                        refine RL.step (Gd.yes rfl rfl) rfl rfl ?_
                                                        first
                                                          | refine NV.load_var1 T rfl rfl rfl rfl (by repeat first | exact At.head _ _ | apply At.tail) rfl ?_
                                                          | refine NV.load_varN T rfl rfl rfl rfl rfl (by repeat first | exact At.head _ _ | apply At.tail) (by exact (rfl : _ = [_])) rfl ?_
                                                          | refine NV.load_elem T rfl rfl rfl rfl (by assumption) (by first | exact map_get _ _ (by omega) | assumption) ?_
                                                        refine RL.step (Gd.yes rfl rfl) rfl rfl ?_
                                                        refine NV.pure T (by conv => lhs; whnf; arg 1; whnf) ?_
                                                        refine RL.step (Gd.yes rfl rfl) rfl rfl ?_
                                                        refine NV.pure T (by conv => lhs; whnf; arg 1; whnf) ?_
                                                        refine RL.step (Gd.yes rfl rfl) rfl rfl ?_
                                                        refine NV.pure T (by conv => lhs; whnf; arg 1; whnf) ?_
                                                        refine RL.split 94 rfl (fun hs11 => ?_) (fun hs11 => ?_)
                                                        · try simp only [decide_eq_true_eq, decide_eq_false_iff_not, Bool.not_eq_true', Bool.not_eq_false', Int.not_lt, Int.not_le] at hs11
                                                          first
                                                            | (exfalso; first | omega | (simp at *; done) | (simp at *; omega))
                                                            | (
                                                              refine RL.step (Gd.yes rfl rfl) rfl rfl ?_
                                                              refine NV.pure T (by conv => lhs; whnf; arg 1; whnf) ?_
                                                              refine RL.step (Gd.yes rfl rfl) rfl rfl ?_
                                                              first
                                                                | refine NV.load_var1 T rfl rfl rfl rfl (by repeat first | exact At.head _ _ | apply At.tail) rfl ?_
                                                                | refine NV.load_varN T rfl rfl rfl rfl rfl (by repeat first | exact At.head _ _ | apply At.tail) (by exact (rfl : _ = [_])) rfl ?_
                                                                | refine NV.load_elem T rfl rfl rfl rfl (by assumption) (by first | exact map_get _ _ (by omega) | assumption) ?_
                                                              refine RL.step (Gd.yes rfl rfl) rfl rfl ?_
                                                              refine NV.pure T (by conv => lhs; whnf; arg 1; whnf) ?_
                                                              refine RL.step (Gd.yes rfl rfl) rfl rfl ?_
                                                              refine NV.pure T (by conv => lhs; whnf; arg 1; whnf) ?_
                                                              refine RL.step (Gd.none rfl) rfl rfl ?_
                                                              refine NV.pure T (by conv => lhs; whnf; arg 1; whnf) ?_
                                                              refine RL.step (Gd.none rfl) rfl rfl ?_
                                                              first
                                                                | refine NV.pure T (by conv => lhs; whnf; arg 1; whnf) ?_
                                                                | refine NV.eqd T PL rfl rfl rfl Try.eqGuardType4 rfl ?_
                                                              refine RL.step (Gd.none rfl) rfl rfl ?_
                                                              refine NV.pure T (by conv => lhs; whnf; arg 1; whnf) ?_
                                                              refine RL.nil _ _ _ _ ?_
                                                              refine hK18 _ _ _ ?_
                                                              refine SW.ret ?_
                                                              refine retQ.ret (H' := H) (RVs.tmp (by conv => lhs; whnf) RVs.nil) (fun w hw => Sat.sub (by repeat first | exact List.Sublist.refl _ | apply List.Sublist.cons_cons | apply List.Sublist.cons) hw) ?_
                                                              clear hK18 K18 hK13 K13 hK12 K12 hK10 K10 hK9 K9 hK8 K8 hK7 K7 hK6 K6 hK5 K5 hK4 K4 hK3 K3 hK2 K2 hK1 K1 hK0 K0
                                                              first | exact ⟨rfl, rfl⟩ | (refine ⟨bool1 ?_, rfl⟩; simp; done) | (refine ⟨bool1 ?_, rfl⟩; simp; omega)
                                                              )
                                                        · try simp only [decide_eq_true_eq, decide_eq_false_iff_not, Bool.not_eq_true', Bool.not_eq_false', Int.not_lt, Int.not_le] at hs11
                                                          first
                                                            | (exfalso; first | omega | (simp at *; done) | (simp at *; omega))
                                                            | (
                                                              refine RL.guard_no rfl rfl rfl ?_
                                                              refine RL.guard_no rfl rfl rfl ?_
                                                              refine RL.guard_no rfl rfl rfl ?_
                                                              refine RL.step (Gd.yes rfl rfl) rfl rfl ?_
                                                              refine NV.pure T (by conv => lhs; whnf; arg 1; whnf) ?_
                                                              refine RL.step (Gd.none rfl) rfl rfl ?_
                                                              refine NV.pure T (by conv => lhs; whnf; arg 1; whnf) ?_
                                                              refine RL.step (Gd.none rfl) rfl rfl ?_
                                                              first
                                                                | refine NV.pure T (by conv => lhs; whnf; arg 1; whnf) ?_
                                                                | refine NV.eqd T PL rfl rfl rfl Try.eqGuardType4 rfl ?_
                                                              refine RL.step (Gd.none rfl) rfl rfl ?_
                                                              refine NV.pure T (by conv => lhs; whnf; arg 1; whnf) ?_
                                                              refine RL.nil _ _ _ _ ?_
                                                              refine hK18 _ _ _ ?_
                                                              refine SW.ret ?_
                                                              refine retQ.ret (H' := H) (RVs.tmp (by conv => lhs; whnf) RVs.nil) (fun w hw => Sat.sub (by repeat first | exact List.Sublist.refl _ | apply List.Sublist.cons_cons | apply List.Sublist.cons) hw) ?_
                                                              clear hK18 K18 hK13 K13 hK12 K12 hK10 K10 hK9 K9 hK8 K8 hK7 K7 hK6 K6 hK5 K5 hK4 K4 hK3 K3 hK2 K2 hK1 K1 hK0 K0
                                                              first | exact ⟨rfl, rfl⟩ | (refine ⟨bool1 ?_, rfl⟩; simp; done) | (refine ⟨bool1 ?_, rfl⟩; simp; omega)
                                                              )
                                                        )
                                                  · try simp only [decide_eq_true_eq, decide_eq_false_iff_not, Bool.not_eq_true', Bool.not_eq_false', Int.not_lt, Int.not_le] at hs10
                                                    first
                                                      | (exfalso; first | omega | (simp at *; done) | (simp at *; omega))
                                                      | (
                                                        refine RL.guard_no rfl rfl rfl ?_
                                                        refine RL.guard_no rfl rfl rfl ?_
                                                        refine RL.guard_no rfl rfl rfl ?_
                                                        refine RL.step (Gd.yes rfl rfl) rfl rfl ?_
                                                        refine NV.pure T (by conv => lhs; whnf; arg 1; whnf) ?_
                                                        refine RL.step (Gd.yes rfl rfl) rfl rfl ?_
                                                        refine NV.pure T (by conv => lhs; whnf; arg 1; whnf) ?_
                                                        refine RL.guard_no rfl rfl rfl ?_
                                                        refine RL.guard_no rfl rfl rfl ?_
                                                        refine RL.guard_no rfl rfl rfl ?_
                                                        refine RL.step (Gd.yes rfl rfl) rfl rfl ?_
                                                        refine NV.pure T (by conv => lhs; whnf; arg 1; whnf) ?_
                                                        refine RL.step (Gd.none rfl) rfl rfl ?_
                                                        refine NV.pure T (by conv => lhs; whnf; arg 1; whnf) ?_
                                                        refine RL.step (Gd.none rfl) rfl rfl ?_
                                                        first
                                                          | refine NV.pure T (by conv => lhs; whnf; arg 1; whnf) ?_
                                                          | refine NV.eqd T PL rfl rfl rfl Try.eqGuardType4 rfl ?_
                                                        refine RL.step (Gd.none rfl) rfl rfl ?_
                                                        refine NV.pure T (by conv => lhs; whnf; arg 1; whnf) ?_
                                                        refine RL.nil _ _ _ _ ?_
                                                        refine hK18 _ _ _ ?_
                                                        refine SW.ret ?_
                                                        refine retQ.ret (H' := H) (RVs.tmp (by conv => lhs; whnf) RVs.nil) (fun w hw => Sat.sub (by repeat first | exact List.Sublist.refl _ | apply List.Sublist.cons_cons | apply List.Sublist.cons) hw) ?_
                                                        clear hK18 K18 hK13 K13 hK12 K12 hK10 K10 hK9 K9 hK8 K8 hK7 K7 hK6 K6 hK5 K5 hK4 K4 hK3 K3 hK2 K2 hK1 K1 hK0 K0
                                                        first | exact ⟨rfl, rfl⟩ | (refine ⟨bool1 ?_, rfl⟩; simp; done) | (refine ⟨bool1 ?_, rfl⟩; simp; omega)
                                                        )
                                                  )
                                            )
                                      )
                                · try simp only [decide_eq_true_eq, decide_eq_false_iff_not, Bool.not_eq_true', Bool.not_eq_false', Int.not_lt, Int.not_le] at hs8
                                  first
                                    | (exfalso; first | omega | (simp at *; done) | (simp at *; omega))
                                    | (
                                      refine RL.guard_no rfl rfl rfl ?_
                                      refine RL.guard_no rfl rfl rfl ?_
                                      refine RL.step (Gd.yes rfl rfl) rfl rfl ?_
                                      refine NV.pure T (by conv => lhs; whnf; arg 1; whnf) ?_
                                      refine RL.step (Gd.none rfl) rfl rfl ?_
                                      refine NV.pure T (by conv => lhs; whnf; arg 1; whnf) ?_
                                      refine RL.nil _ _ _ _ ?_
                                      refine hK13 _ _ _ ?_
                                      refine SW.cond_f rfl ?_
                                      refine SW.skip ?_
                                      refine hK12 _ _ _ ?_
                                      refine SW.seq_k ?_
                                      intro K19 hK19
                                      refine SW.region _ _ _ _ ?_
                                      refine RL.step (Gd.none rfl) rfl rfl ?_
                                      refine NV.pure T (by conv => lhs; whnf; arg 1; whnf) ?_
                                      refine RL.step (Gd.none rfl) rfl rfl ?_
                                      first
                                        | refine NV.load_var1 T rfl rfl rfl rfl (by repeat first | exact At.head _ _ | apply At.tail) rfl ?_
                                        | refine NV.load_varN T rfl rfl rfl rfl rfl (by repeat first | exact At.head _ _ | apply At.tail) (by exact (rfl : _ = [_])) rfl ?_
                                        | refine NV.load_elem T rfl rfl rfl rfl (by assumption) (by first | exact map_get _ _ (by omega) | assumption) ?_
                                      refine RL.step (Gd.none rfl) rfl rfl ?_
                                      refine NV.pure T (by conv => lhs; whnf; arg 1; whnf) ?_
                                      refine RL.step (Gd.none rfl) rfl rfl ?_
                                      first
                                        | refine NV.load_var1 T rfl rfl rfl rfl (by repeat first | exact At.head _ _ | apply At.tail) rfl ?_
                                        | refine NV.load_varN T rfl rfl rfl rfl rfl (by repeat first | exact At.head _ _ | apply At.tail) (by exact (rfl : _ = [_])) rfl ?_
                                        | refine NV.load_elem T rfl rfl rfl rfl (by assumption) (by first | exact map_get _ _ (by omega) | assumption) ?_
                                      refine RL.step (Gd.none rfl) rfl rfl ?_
                                      refine NV.pure T (by conv => lhs; whnf; arg 1; whnf) ?_
                                      refine RL.step (Gd.none rfl) rfl rfl ?_
                                      refine NV.pure T (by conv => lhs; whnf; arg 1; whnf) ?_
                                      refine RL.step (Gd.none rfl) rfl rfl ?_
                                      first
                                        | refine NV.pure T (by conv => lhs; whnf; arg 1; whnf) ?_
                                        | refine NV.eqd T PL rfl rfl rfl Try.eqGuardType3 rfl ?_
                                      refine RL.step (Gd.none rfl) rfl rfl ?_
                                      refine NV.pure T (by conv => lhs; whnf; arg 1; whnf) ?_
                                      refine RL.split 86 rfl (fun hs12 => ?_) (fun hs12 => ?_)
                                      · try simp only [decide_eq_true_eq, decide_eq_false_iff_not, Bool.not_eq_true', Bool.not_eq_false', Int.not_lt, Int.not_le] at hs12
                                        first
                                          | (exfalso; first | omega | (simp at *; done) | (simp at *; omega))
                                          | (
                                            refine RL.guard_no rfl rfl rfl ?_
                                            refine RL.guard_no rfl rfl rfl ?_
                                            refine RL.guard_no rfl rfl rfl ?_
                                            refine RL.guard_no rfl rfl rfl ?_
                                            refine RL.guard_no rfl rfl rfl ?_
                                            refine RL.guard_no rfl rfl rfl ?_
                                            refine RL.guard_no rfl rfl rfl ?_
                                            refine RL.guard_no rfl rfl rfl ?_
                                            refine RL.guard_no rfl rfl rfl ?_
                                            refine RL.guard_no rfl rfl rfl ?_
                                            refine RL.guard_no rfl rfl rfl ?_
                                            refine RL.guard_no rfl rfl rfl ?_
                                            refine RL.step (Gd.none rfl) rfl rfl ?_
                                            refine NV.pure T (by conv => lhs; whnf; arg 1; whnf) ?_
                                            refine RL.step (Gd.none rfl) rfl rfl ?_
                                            first
                                              | refine NV.pure T (by conv => lhs; whnf; arg 1; whnf) ?_
                                              | refine NV.eqd T PL rfl rfl rfl Try.eqGuardType4 rfl ?_
                                            refine RL.step (Gd.none rfl) rfl rfl ?_
                                            refine NV.pure T (by conv => lhs; whnf; arg 1; whnf) ?_
                                            refine RL.nil _ _ _ _ ?_
                                            refine hK19 _ _ _ ?_
                                            refine SW.ret ?_
                                            refine retQ.ret (H' := H) (RVs.tmp (by conv => lhs; whnf) RVs.nil) (fun w hw => Sat.sub (by repeat first | exact List.Sublist.refl _ | apply List.Sublist.cons_cons | apply List.Sublist.cons) hw) ?_
                                            clear hK19 K19 hK13 K13 hK12 K12 hK10 K10 hK9 K9 hK8 K8 hK7 K7 hK6 K6 hK5 K5 hK4 K4 hK3 K3 hK2 K2 hK1 K1 hK0 K0
                                            first | exact ⟨rfl, rfl⟩ | (refine ⟨bool1 ?_, rfl⟩; simp; done) | (refine ⟨bool1 ?_, rfl⟩; simp; omega)
                                            )
                                      · try simp only [decide_eq_true_eq, decide_eq_false_iff_not, Bool.not_eq_true', Bool.not_eq_false', Int.not_lt, Int.not_le] at hs12
                                        first
                                          | (exfalso; first | omega | (simp at *; done) | (simp at *; omega))
                                          | (
                                            refine RL.step (Gd.yes rfl rfl) rfl rfl ?_
                                            refine NV.pure T (by conv => lhs; whnf; arg 1; whnf) ?_
                                            refine RL.step (Gd.yes rfl rfl) rfl rfl ?_
                                            first
                                              | refine NV.pure T (by conv => lhs; whnf; arg 1; whnf) ?_
                                              | refine NV.eqd T PL rfl rfl rfl Try.eqGuardType3 rfl ?_
                                            refine RL.step (Gd.yes rfl rfl) rfl rfl ?_
                                            refine NV.pure T (by conv => lhs; whnf; arg 1; whnf) ?_
                                            refine RL.split 89 rfl (fun hs13 => ?_) (fun hs13 => ?_)
                                            · try simp only [decide_eq_true_eq, decide_eq_false_iff_not, Bool.not_eq_true', Bool.not_eq_false', Int.not_lt, Int.not_le] at hs13
                                              first
                                                | (exfalso; first | omega | (simp at *; done) | (simp at *; omega))
                                                | (
                                                  refine RL.step (Gd.yes rfl rfl) rfl rfl ?_
                                                  refine NV.pure T (by conv => lhs; whnf; arg 1; whnf) ?_
                                                  refine RL.step (Gd.yes rfl rfl) rfl rfl ?_
                                                  first
                                                    | refine NV.load_var1 T rfl rfl rfl rfl (by repeat first | exact At.head _ _ | apply At.tail) rfl ?_
                                                    | refine NV.load_varN T rfl rfl rfl rfl rfl (by repeat first | exact At.head _ _ | apply At.tail) (by exact (rfl : _ = [_])) rfl ?_
                                                    | refine NV.load_elem T rfl rfl rfl rfl (by assumption) (by first | exact map_get _ _ (by omega) | assumption) ?_
                                                  refine RL.step (Gd.yes rfl rfl) rfl rfl ?_
                                                  refine NV.pure T (by conv => lhs; whnf; arg 1; whnf) ?_
                                                  refine RL.step (Gd.yes rfl rfl) rfl rfl ?_
                                                  refine NV.pure T (by conv => lhs; whnf; arg 1; whnf) ?_
                                                  refine RL.step (Gd.yes rfl rfl) rfl rfl ?_
                                                  refine NV.pure T (by conv => lhs; whnf; arg 1; whnf) ?_
                                                  refine RL.split 94 rfl (fun hs14 => ?_) (fun hs14 => ?_)
                                                  · try simp only [decide_eq_true_eq, decide_eq_false_iff_not, Bool.not_eq_true', Bool.not_eq_false', Int.not_lt, Int.not_le] at hs14
                                                    first
                                                      | (exfalso; first | omega | (simp at *; done) | (simp at *; omega))
                                                      | (
                                                        refine RL.step (Gd.yes rfl rfl) rfl rfl ?_
                                                        refine NV.pure T (by conv => lhs; whnf; arg 1; whnf) ?_
                                                        refine RL.step (Gd.yes rfl rfl) rfl rfl ?_
                                                        first
                                                          | refine NV.load_var1 T rfl rfl rfl rfl (by repeat first | exact At.head _ _ | apply At.tail) rfl ?_
                                                          | refine NV.load_varN T rfl rfl rfl rfl rfl (by repeat first | exact At.head _ _ | apply At.tail) (by exact (rfl : _ = [_])) rfl ?_
                                                          | refine NV.load_elem T rfl rfl rfl rfl (by assumption) (by first | exact map_get _ _ (by omega) | assumption) ?_
                                                        refine RL.step (Gd.yes rfl rfl) rfl rfl ?_
                                                        refine NV.pure T (by conv => lhs; whnf; arg 1; whnf) ?_
                                                        refine RL.step (Gd.yes rfl rfl) rfl rfl ?_
                                                        refine NV.pure T (by conv => lhs; whnf; arg 1; whnf) ?_
                                                        refine RL.step (Gd.none rfl) rfl rfl ?_
                                                        refine NV.pure T (by conv => lhs; whnf; arg 1; whnf) ?_
                                                        refine RL.step (Gd.none rfl) rfl rfl ?_
                                                        first
                                                          | refine NV.pure T (by conv => lhs; whnf; arg 1; whnf) ?_
                                                          | refine NV.eqd T PL rfl rfl rfl Try.eqGuardType4 rfl ?_
                                                        refine RL.step (Gd.none rfl) rfl rfl ?_
                                                        refine NV.pure T (by conv => lhs; whnf; arg 1; whnf) ?_
                                                        refine RL.nil _ _ _ _ ?_
                                                        refine hK19 _ _ _ ?_
                                                        refine SW.ret ?_
                                                        refine retQ.ret (H' := H) (RVs.tmp (by conv => lhs; whnf) RVs.nil) (fun w hw => Sat.sub (by repeat first | exact List.Sublist.refl _ | apply List.Sublist.cons_cons | apply List.Sublist.cons) hw) ?_
                                                        clear hK19 K19 hK13 K13 hK12 K12 hK10 K10 hK9 K9 hK8 K8 hK7 K7 hK6 K6 hK5 K5 hK4 K4 hK3 K3 hK2 K2 hK1 K1 hK0 K0
                                                        first | exact ⟨rfl, rfl⟩ | (refine ⟨bool1 ?_, rfl⟩; simp; done) | (refine ⟨bool1 ?_, rfl⟩; simp; omega)
                                                        )
                                                  · try simp only [decide_eq_true_eq, decide_eq_false_iff_not, Bool.not_eq_true', Bool.not_eq_false', Int.not_lt, Int.not_le] at hs14
                                                    first
                                                      | (exfalso; first | omega | (simp at *; done) | (simp at *; omega))
                                                      | (
                                                        refine RL.guard_no rfl rfl rfl ?_
                                                        refine RL.guard_no rfl rfl rfl ?_
                                                        refine RL.guard_no rfl rfl rfl ?_
                                                        refine RL.step (Gd.yes rfl rfl) rfl rfl ?_
                                                        refine NV.pure T (by conv => lhs; whnf; arg 1; whnf) ?_
                                                        refine RL.step (Gd.none rfl) rfl rfl ?_
                                                        refine NV.pure T (by conv => lhs; whnf; arg 1; whnf) ?_
                                                        refine RL.step (Gd.none rfl) rfl rfl ?_
                                                        first
                                                          | refine NV.pure T (by conv => lhs; whnf; arg 1; whnf) ?_
                                                          | refine NV.eqd T PL rfl rfl rfl Try.eqGuardType4 rfl ?_
                                                        refine RL.step (Gd.none rfl) rfl rfl ?_
                                                        refine NV.pure T (by conv => lhs; whnf; arg 1; whnf) ?_
                                                        refine RL.nil _ _ _ _ ?_
                                                        refine hK19 _ _ _ ?_
                                                        refine SW.ret ?_
                                                        refine retQ.ret (H' := H) (RVs.tmp (by conv => lhs; whnf) RVs.nil) (fun w hw => Sat.sub (by repeat first | exact List.Sublist.refl _ | apply List.Sublist.cons_cons | apply List.Sublist.cons) hw) ?_
                                                        clear hK19 K19 hK13 K13 hK12 K12 hK10 K10 hK9 K9 hK8 K8 hK7 K7 hK6 K6 hK5 K5 hK4 K4 hK3 K3 hK2 K2 hK1 K1 hK0 K0
                                                        first | exact ⟨rfl, rfl⟩ | (refine ⟨bool1 ?_, rfl⟩; simp; done) | (refine ⟨bool1 ?_, rfl⟩; simp; omega)
                                                        )
                                                  )
                                            · try simp only [decide_eq_true_eq, decide_eq_false_iff_not, Bool.not_eq_true', Bool.not_eq_false', Int.not_lt, Int.not_le] at hs13
                                              first
                                                | (exfalso; first | omega | (simp at *; done) | (simp at *; omega))
                                                | (
                                                  refine RL.guard_no rfl rfl rfl ?_
                                                  refine RL.guard_no rfl rfl rfl ?_
                                                  refine RL.guard_no rfl rfl rfl ?_
                                                  refine RL.step (Gd.yes rfl rfl) rfl rfl ?_
                                                  refine NV.pure T (by conv => lhs; whnf; arg 1; whnf) ?_
                                                  refine RL.step (Gd.yes rfl rfl) rfl rfl ?_
                                                  refine NV.pure T (by conv => lhs; whnf; arg 1; whnf) ?_
                                                  refine RL.guard_no rfl rfl rfl ?_
                                                  refine RL.guard_no rfl rfl rfl ?_
                                                  refine RL.guard_no rfl rfl rfl ?_
                                                  refine RL.step (Gd.yes rfl rfl) rfl rfl ?_
                                                  refine NV.pure T (by conv => lhs; whnf; arg 1; whnf) ?_
                                                  refine RL.step (Gd.none rfl) rfl rfl ?_
                                                  refine NV.pure T (by conv => lhs; whnf; arg 1; whnf) ?_
                                                  refine RL.step (Gd.none rfl) rfl rfl ?_
                                                  first
                                                    | refine NV.pure T (by conv => lhs; whnf; arg 1; whnf) ?_
                                                    | refine NV.eqd T PL rfl rfl rfl Try.eqGuardType4 rfl ?_
                                                  refine RL.step (Gd.none rfl) rfl rfl ?_
                                                  refine NV.pure T (by conv => lhs; whnf; arg 1; whnf) ?_
                                                  refine RL.nil _ _ _ _ ?_
                                                  refine hK19 _ _ _ ?_
                                                  refine SW.ret ?_
                                                  refine retQ.ret (H' := H) (RVs.tmp (by conv => lhs; whnf) RVs.nil) (fun w hw => Sat.sub (by repeat first | exact List.Sublist.refl _ | apply List.Sublist.cons_cons | apply List.Sublist.cons) hw) ?_
                                                  clear hK19 K19 hK13 K13 hK12 K12 hK10 K10 hK9 K9 hK8 K8 hK7 K7 hK6 K6 hK5 K5 hK4 K4 hK3 K3 hK2 K2 hK1 K1 hK0 K0
                                                  first | exact ⟨rfl, rfl⟩ | (refine ⟨bool1 ?_, rfl⟩; simp; done) | (refine ⟨bool1 ?_, rfl⟩; simp; omega)
                                                  )
                                            )
                                      )
                                )
                          )
                    · try simp only [decide_eq_true_eq, decide_eq_false_iff_not, Bool.not_eq_true', Bool.not_eq_false', Int.not_lt, Int.not_le] at hs6
                      first
                        | (exfalso; first | omega | (simp at *; done) | (simp at *; omega))
                        | (
                          refine RL.guard_no rfl rfl rfl ?_
                          refine RL.guard_no rfl rfl rfl ?_
                          refine RL.step (Gd.yes rfl rfl) rfl rfl ?_
                          refine NV.pure T (by conv => lhs; whnf; arg 1; whnf) ?_
                          refine RL.step (Gd.none rfl) rfl rfl ?_
                          refine NV.pure T (by conv => lhs; whnf; arg 1; whnf) ?_
                          refine RL.step (Gd.none rfl) rfl rfl ?_
                          refine NV.pure T (by conv => lhs; whnf; arg 1; whnf) ?_
                          refine RL.step (Gd.yes rfl rfl) rfl rfl ?_
                          refine NV.pure T (by conv => lhs; whnf; arg 1; whnf) ?_
                          refine RL.step (Gd.yes rfl rfl) rfl rfl ?_
                          first
                            | refine NV.load_var1 T rfl rfl rfl rfl (by repeat first | exact At.head _ _ | apply At.tail) rfl ?_
                            | refine NV.load_varN T rfl rfl rfl rfl rfl (by repeat first | exact At.head _ _ | apply At.tail) (by exact (rfl : _ = [_])) rfl ?_
                            | refine NV.load_elem T rfl rfl rfl rfl (by assumption) (by first | exact map_get _ _ (by omega) | assumption) ?_
                          refine RL.step (Gd.yes rfl rfl) rfl rfl ?_
                          refine NV.pure T (by conv => lhs; whnf; arg 1; whnf) ?_
                          refine RL.step (Gd.yes rfl rfl) rfl rfl ?_
                          first
                            | refine NV.load_var1 T rfl rfl rfl rfl (by repeat first | exact At.head _ _ | apply At.tail) rfl ?_
                            | refine NV.load_varN T rfl rfl rfl rfl rfl (by repeat first | exact At.head _ _ | apply At.tail) (by exact (rfl : _ = [_])) rfl ?_
                            | refine NV.load_elem T rfl rfl rfl rfl (by assumption) (by first | exact map_get _ _ (by omega) | assumption) ?_
                          refine RL.step (Gd.yes rfl rfl) rfl rfl ?_
                          refine NV.pure T (by conv => lhs; whnf; arg 1; whnf) ?_
                          refine RL.step (Gd.yes rfl rfl) rfl rfl ?_
                          refine NV.pure T (by conv => lhs; whnf; arg 1; whnf) ?_
                          refine RL.split 74 rfl (fun hs15 => ?_) (fun hs15 => ?_)
                          · try simp only [decide_eq_true_eq, decide_eq_false_iff_not, Bool.not_eq_true', Bool.not_eq_false', Int.not_lt, Int.not_le] at hs15
                            first
                              | (exfalso; first | omega | (simp at *; done) | (simp at *; omega))
                              | (
                                refine RL.step (Gd.yes rfl rfl) rfl rfl ?_
                                refine NV.pure T (by conv => lhs; whnf; arg 1; whnf) ?_
                                refine RL.step (Gd.yes rfl rfl) rfl rfl ?_
                                refine NV.pure T (by conv => lhs; whnf; arg 1; whnf) ?_
                                refine RL.step (Gd.yes rfl rfl) rfl rfl ?_
                                refine NV.pure T (by conv => lhs; whnf; arg 1; whnf) ?_
                                refine RL.step (Gd.none rfl) rfl rfl ?_
                                refine NV.pure T (by conv => lhs; whnf; arg 1; whnf) ?_
                                refine RL.nil _ _ _ _ ?_
                                refine hK13 _ _ _ ?_
                                refine SW.cond rfl (fun hc5 => ?_) (fun hc5 => ?_)
                                · try simp only [decide_eq_true_eq, decide_eq_false_iff_not, Bool.not_eq_true', Bool.not_eq_false', Int.not_lt, Int.not_le] at hc5
                                  first
                                    | (exfalso; first | omega | (simp at *; done) | (simp at *; omega))
                                    | (
                                      refine SW.seq_k ?_
                                      intro K20 hK20
                                      refine SW.region _ _ _ _ ?_
                                      refine RL.step (Gd.none rfl) rfl rfl ?_
                                      refine NV.pure T (by conv => lhs; whnf; arg 1; whnf) ?_
                                      refine RL.nil _ _ _ _ ?_
                                      refine hK20 _ _ _ ?_
                                      refine SW.ret ?_
                                      refine retQ.ret (H' := H) (RVs.tmp (by conv => lhs; whnf) RVs.nil) (fun w hw => Sat.sub (by repeat first | exact List.Sublist.refl _ | apply List.Sublist.cons_cons | apply List.Sublist.cons) hw) ?_
                                      clear hK20 K20 hK13 K13 hK12 K12 hK10 K10 hK9 K9 hK8 K8 hK7 K7 hK6 K6 hK5 K5 hK4 K4 hK3 K3 hK2 K2 hK1 K1 hK0 K0
                                      first | exact ⟨rfl, rfl⟩ | (refine ⟨bool1 ?_, rfl⟩; simp; done) | (refine ⟨bool1 ?_, rfl⟩; simp; omega)
                                      )
                                · try simp only [decide_eq_true_eq, decide_eq_false_iff_not, Bool.not_eq_true', Bool.not_eq_false', Int.not_lt, Int.not_le] at hc5
                                  first
                                    | (exfalso; first | omega | (simp at *; done) | (simp at *; omega))
                                    | (
                                      refine SW.skip ?_
                                      refine hK12 _ _ _ ?_
                                      refine SW.seq_k ?_
                                      intro K21 hK21
                                      refine SW.region _ _ _ _ ?_
                                      refine RL.step (Gd.none rfl) rfl rfl ?_
                                      refine NV.pure T (by conv => lhs; whnf; arg 1; whnf) ?_
                                      refine RL.step (Gd.none rfl) rfl rfl ?_
                                      first
                                        | refine NV.load_var1 T rfl rfl rfl rfl (by repeat first | exact At.head _ _ | apply At.tail) rfl ?_
                                        | refine NV.load_varN T rfl rfl rfl rfl rfl (by repeat first | exact At.head _ _ | apply At.tail) (by exact (rfl : _ = [_])) rfl ?_
                                        | refine NV.load_elem T rfl rfl rfl rfl (by assumption) (by first | exact map_get _ _ (by omega) | assumption) ?_
                                      refine RL.step (Gd.none rfl) rfl rfl ?_
                                      refine NV.pure T (by conv => lhs; whnf; arg 1; whnf) ?_
                                      refine RL.step (Gd.none rfl) rfl rfl ?_
                                      first
                                        | refine NV.load_var1 T rfl rfl rfl rfl (by repeat first | exact At.head _ _ | apply At.tail) rfl ?_
                                        | refine NV.load_varN T rfl rfl rfl rfl rfl (by repeat first | exact At.head _ _ | apply At.tail) (by exact (rfl : _ = [_])) rfl ?_
                                        | refine NV.load_elem T rfl rfl rfl rfl (by assumption) (by first | exact map_get _ _ (by omega) | assumption) ?_
                                      refine RL.step (Gd.none rfl) rfl rfl ?_
                                      refine NV.pure T (by conv => lhs; whnf; arg 1; whnf) ?_
                                      refine RL.step (Gd.none rfl) rfl rfl ?_
                                      refine NV.pure T (by conv => lhs; whnf; arg 1; whnf) ?_
                                      refine RL.step (Gd.none rfl) rfl rfl ?_
                                      first
                                        | refine NV.pure T (by conv => lhs; whnf; arg 1; whnf) ?_
                                        | refine NV.eqd T PL rfl rfl rfl Try.eqGuardType3 rfl ?_
                                      refine RL.step (Gd.none rfl) rfl rfl ?_
                                      refine NV.pure T (by conv => lhs; whnf; arg 1; whnf) ?_
                                      refine RL.split 86 rfl (fun hs16 => ?_) (fun hs16 => ?_)
                                      · try simp only [decide_eq_true_eq, decide_eq_false_iff_not, Bool.not_eq_true', Bool.not_eq_false', Int.not_lt, Int.not_le] at hs16
                                        first
                                          | (exfalso; first | omega | (simp at *; done) | (simp at *; omega))
                                          | (
                                            refine RL.guard_no rfl rfl rfl ?_
                                            refine RL.guard_no rfl rfl rfl ?_
                                            refine RL.guard_no rfl rfl rfl ?_
                                            refine RL.guard_no rfl rfl rfl ?_
                                            refine RL.guard_no rfl rfl rfl ?_
                                            refine RL.guard_no rfl rfl rfl ?_
                                            refine RL.guard_no rfl rfl rfl ?_
                                            refine RL.guard_no rfl rfl rfl ?_
                                            refine RL.guard_no rfl rfl rfl ?_
                                            refine RL.guard_no rfl rfl rfl ?_
                                            refine RL.guard_no rfl rfl rfl ?_
                                            refine RL.guard_no rfl rfl rfl ?_
                                            refine RL.step (Gd.none rfl) rfl rfl ?_
                                            refine NV.pure T (by conv => lhs; whnf; arg 1; whnf) ?_
                                            refine RL.step (Gd.none rfl) rfl rfl ?_
                                            first
                                              | refine NV.pure T (by conv => lhs; whnf; arg 1; whnf) ?_
                                              | refine NV.eqd T PL rfl rfl rfl Try.eqGuardType4 rfl ?_
                                            refine RL.step (Gd.none rfl) rfl rfl ?_
                                            refine NV.pure T (by conv => lhs; whnf; arg 1; whnf) ?_
                                            refine RL.nil _ _ _ _ ?_
                                            refine hK21 _ _ _ ?_
                                            refine SW.ret ?_
                                            refine retQ.ret (H' := H) (RVs.tmp (by conv => lhs; whnf) RVs.nil) (fun w hw => Sat.sub (by repeat first | exact List.Sublist.refl _ | apply List.Sublist.cons_cons | apply List.Sublist.cons) hw) ?_
                                            clear hK21 K21 hK13 K13 hK12 K12 hK10 K10 hK9 K9 hK8 K8 hK7 K7 hK6 K6 hK5 K5 hK4 K4 hK3 K3 hK2 K2 hK1 K1 hK0 K0
                                            first | exact ⟨rfl, rfl⟩ | (refine ⟨bool1 ?_, rfl⟩; simp; done) | (refine ⟨bool1 ?_, rfl⟩; simp; omega)
                                            )
                                      · try simp only [decide_eq_true_eq, decide_eq_false_iff_not, Bool.not_eq_true', Bool.not_eq_false', Int.not_lt, Int.not_le] at hs16
                                        first
                                          | (exfalso; first | omega | (simp at *; done) | (simp at *; omega))
                                          | (
                                            refine RL.step (Gd.yes rfl rfl) rfl rfl ?_
                                            refine NV.pure T (by conv => lhs; whnf; arg 1; whnf) ?_
                                            refine RL.step (Gd.yes rfl rfl) rfl rfl ?_
                                            first
                                              | refine NV.pure T (by conv => lhs; whnf; arg 1; whnf) ?_
                                              | refine NV.eqd T PL rfl rfl rfl Try.eqGuardType3 rfl ?_
                                            refine RL.step (Gd.yes rfl rfl) rfl rfl ?_
                                            refine NV.pure T (by conv => lhs; whnf; arg 1; whnf) ?_
                                            refine RL.split 89 rfl (fun hs17 => ?_) (fun hs17 => ?_)
                                            · try simp only [decide_eq_true_eq, decide_eq_false_iff_not, Bool.not_eq_true', Bool.not_eq_false', Int.not_lt, Int.not_le] at hs17
                                              first
                                                | (exfalso; first | omega | (simp at *; done) | (simp at *; omega))
                                                | (
                                                  refine RL.step (Gd.yes rfl rfl) rfl rfl ?_
                                                  refine NV.pure T (by conv => lhs; whnf; arg 1; whnf) ?_
                                                  refine RL.step (Gd.yes rfl rfl) rfl rfl ?_
                                                  first
                                                    | refine NV.load_var1 T rfl rfl rfl rfl (by repeat first | exact At.head _ _ | apply At.tail) rfl ?_
                                                    | refine NV.load_varN T rfl rfl rfl rfl rfl (by repeat first | exact At.head _ _ | apply At.tail) (by exact (rfl : _ = [_])) rfl ?_
                                                    | refine NV.load_elem T rfl rfl rfl rfl (by assumption) (by first | exact map_get _ _ (by omega) | assumption) ?_
                                                  refine RL.step (Gd.yes rfl rfl) rfl rfl ?_
                                                  refine NV.pure T (by conv => lhs; whnf; arg 1; whnf) ?_
                                                  refine RL.step (Gd.yes rfl rfl) rfl rfl ?_
                                                  refine NV.pure T (by conv => lhs; whnf; arg 1; whnf) ?_
                                                  refine RL.step (Gd.yes rfl rfl) rfl rfl ?_
                                                  refine NV.pure T (by conv => lhs; whnf; arg 1; whnf) ?_
                                                  refine RL.split 94 rfl (fun hs18 => ?_) (fun hs18 => ?_)
                                                  · try simp only [decide_eq_true_eq, decide_eq_false_iff_not, Bool.not_eq_true', Bool.not_eq_false', Int.not_lt, Int.not_le] at hs18
                                                    first
                                                      | (exfalso; first | omega | (simp at *; done) | (simp at *; omega))
                                                      | (
                                                        refine RL.step (Gd.yes rfl rfl) rfl rfl ?_
                                                        refine NV.pure T (by conv => lhs; whnf; arg 1; whnf) ?_
                                                        refine RL.step (Gd.yes rfl rfl) rfl rfl ?_
                                                        first
                                                          | refine NV.load_var1 T rfl rfl rfl rfl (by repeat first | exact At.head _ _ | apply At.tail) rfl ?_
                                                          | refine NV.load_varN T rfl rfl rfl rfl rfl (by repeat first | exact At.head _ _ | apply At.tail) (by exact (rfl : _ = [_])) rfl ?_
                                                          | refine NV.load_elem T rfl rfl rfl rfl (by assumption) (by first | exact map_get _ _ (by omega) | assumption) ?_
                                                        refine RL.step (Gd.yes rfl rfl) rfl rfl ?_
                                                        refine NV.pure T (by conv => lhs; whnf; arg 1; whnf) ?_
                                                        refine RL.step (Gd.yes rfl rfl) rfl rfl ?_
                                                        refine NV.pure T (by conv => lhs; whnf; arg 1; whnf) ?_
                                                        refine RL.step (Gd.none rfl) rfl rfl ?_
                                                        refine NV.pure T (by conv => lhs; whnf; arg 1; whnf) ?_
                                                        refine RL.step (Gd.none rfl) rfl rfl ?_
                                                        first
                                                          | refine NV.pure T (by conv => lhs; whnf; arg 1; whnf) ?_
                                                          | refine NV.eqd T PL rfl rfl rfl Try.eqGuardType4 rfl ?_
                                                        refine RL.step (Gd.none rfl) rfl rfl ?_
                                                        refine NV.pure T (by conv => lhs; whnf; arg 1; whnf) ?_
                                                        refine RL.nil _ _ _ _ ?_
                                                        refine hK21 _ _ _ ?_
                                                        refine SW.ret ?_
                                                        refine retQ.ret (H' := H) (RVs.tmp (by conv => lhs; whnf) RVs.nil) (fun w hw => Sat.sub (by repeat first | exact List.Sublist.refl _ | apply List.Sublist.cons_cons | apply List.Sublist.cons) hw) ?_
                                                        clear hK21 K21 hK13 K13 hK12 K12 hK10 K10 hK9 K9 hK8 K8 hK7 K7 hK6 K6 hK5 K5 hK4 K4 hK3 K3 hK2 K2 hK1 K1 hK0 K0
                                                        first | exact ⟨rfl, rfl⟩ | (refine ⟨bool1 ?_, rfl⟩; simp; done) | (refine ⟨bool1 ?_, rfl⟩; simp; omega)
                                                        )
                                                  · try simp only [decide_eq_true_eq, decide_eq_false_iff_not, Bool.not_eq_true', Bool.not_eq_false', Int.not_lt, Int.not_le] at hs18
                                                    first
                                                      | (exfalso; first | omega | (simp at *; done) | (simp at *; omega))
                                                      | (
                                                        refine RL.guard_no rfl rfl rfl ?_
                                                        refine RL.guard_no rfl rfl rfl ?_
                                                        refine RL.guard_no rfl rfl rfl ?_
                                                        refine RL.step (Gd.yes rfl rfl) rfl rfl ?_
                                                        refine NV.pure T (by conv => lhs; whnf; arg 1; whnf) ?_
                                                        refine RL.step (Gd.none rfl) rfl rfl ?_
                                                        refine NV.pure T (by conv => lhs; whnf; arg 1; whnf) ?_
                                                        refine RL.step (Gd.none rfl) rfl rfl ?_
                                                        first
                                                          | refine NV.pure T (by conv => lhs; whnf; arg 1; whnf) ?_
                                                          | refine NV.eqd T PL rfl rfl rfl Try.eqGuardType4 rfl ?_
                                                        refine RL.step (Gd.none rfl) rfl rfl ?_
                                                        refine NV.pure T (by conv => lhs; whnf; arg 1; whnf) ?_
                                                        refine RL.nil _ _ _ _ ?_
                                                        refine hK21 _ _ _ ?_
                                                        refine SW.ret ?_
                                                        refine retQ.ret (H' := H) (RVs.tmp (by conv => lhs; whnf) RVs.nil) (fun w hw => Sat.sub (by repeat first | exact List.Sublist.refl _ | apply List.Sublist.cons_cons | apply List.Sublist.cons) hw) ?_
                                                        clear hK21 K21 hK13 K13 hK12 K12 hK10 K10 hK9 K9 hK8 K8 hK7 K7 hK6 K6 hK5 K5 hK4 K4 hK3 K3 hK2 K2 hK1 K1 hK0 K0
                                                        first | exact ⟨rfl, rfl⟩ | (refine ⟨bool1 ?_, rfl⟩; simp; done) | (refine ⟨bool1 ?_, rfl⟩; simp; omega)
                                                        )
                                                  )
                                            · try simp only [decide_eq_true_eq, decide_eq_false_iff_not, Bool.not_eq_true', Bool.not_eq_false', Int.not_lt, Int.not_le] at hs17
                                              first
                                                | (exfalso; first | omega | (simp at *; done) | (simp at *; omega))
                                                | (
                                                  refine RL.guard_no rfl rfl rfl ?_
                                                  refine RL.guard_no rfl rfl rfl ?_
                                                  refine RL.guard_no rfl rfl rfl ?_
                                                  refine RL.step (Gd.yes rfl rfl) rfl rfl ?_
                                                  refine NV.pure T (by conv => lhs; whnf; arg 1; whnf) ?_
                                                  refine RL.step (Gd.yes rfl rfl) rfl rfl ?_
                                                  refine NV.pure T (by conv => lhs; whnf; arg 1; whnf) ?_
                                                  refine RL.guard_no rfl rfl rfl ?_
                                                  refine RL.guard_no rfl rfl rfl ?_
                                                  refine RL.guard_no rfl rfl rfl ?_
                                                  refine RL.step (Gd.yes rfl rfl) rfl rfl ?_
                                                  refine NV.pure T (by conv => lhs; whnf; arg 1; whnf) ?_
                                                  refine RL.step (Gd.none rfl) rfl rfl ?_
                                                  refine NV.pure T (by conv => lhs; whnf; arg 1; whnf) ?_
                                                  refine RL.step (Gd.none rfl) rfl rfl ?_
                                                  first
                                                    | refine NV.pure T (by conv => lhs; whnf; arg 1; whnf) ?_
                                                    | refine NV.eqd T PL rfl rfl rfl Try.eqGuardType4 rfl ?_
                                                  refine RL.step (Gd.none rfl) rfl rfl ?_
                                                  refine NV.pure T (by conv => lhs; whnf; arg 1; whnf) ?_
                                                  refine RL.nil _ _ _ _ ?_
                                                  refine hK21 _ _ _ ?_
                                                  refine SW.ret ?_
                                                  refine retQ.ret (H' := H) (RVs.tmp (by conv => lhs; whnf) RVs.nil) (fun w hw => Sat.sub (by repeat first | exact List.Sublist.refl _ | apply List.Sublist.cons_cons | apply List.Sublist.cons) hw) ?_
                                                  clear hK21 K21 hK13 K13 hK12 K12 hK10 K10 hK9 K9 hK8 K8 hK7 K7 hK6 K6 hK5 K5 hK4 K4 hK3 K3 hK2 K2 hK1 K1 hK0 K0
                                                  first | exact ⟨rfl, rfl⟩ | (refine ⟨bool1 ?_, rfl⟩; simp; done) | (refine ⟨bool1 ?_, rfl⟩; simp; omega)
                                                  )
                                            )
                                      )
                                )
                          · try simp only [decide_eq_true_eq, decide_eq_false_iff_not, Bool.not_eq_true', Bool.not_eq_false', Int.not_lt, Int.not_le] at hs15
                            first
                              | (exfalso; first | omega | (simp at *; done) | (simp at *; omega))
                              | (
                                refine RL.guard_no rfl rfl rfl ?_
                                refine RL.guard_no rfl rfl rfl ?_
                                refine RL.step (Gd.yes rfl rfl) rfl rfl ?_
                                refine NV.pure T (by conv => lhs; whnf; arg 1; whnf) ?_
                                refine RL.step (Gd.none rfl) rfl rfl ?_
                                refine NV.pure T (by conv => lhs; whnf; arg 1; whnf) ?_
                                refine RL.nil _ _ _ _ ?_
                                refine hK13 _ _ _ ?_
                                refine SW.cond_f rfl ?_
                                refine SW.skip ?_
                                refine hK12 _ _ _ ?_
                                refine SW.seq_k ?_
                                intro K22 hK22
                                refine SW.region _ _ _ _ ?_
                                refine RL.step (Gd.none rfl) rfl rfl ?_
                                refine NV.pure T (by conv => lhs; whnf; arg 1; whnf) ?_
                                refine RL.step (Gd.none rfl) rfl rfl ?_
                                first
                                  | refine NV.load_var1 T rfl rfl rfl rfl (by repeat first | exact At.head _ _ | apply At.tail) rfl ?_
                                  | refine NV.load_varN T rfl rfl rfl rfl rfl (by repeat first | exact At.head _ _ | apply At.tail) (by exact (rfl : _ = [_])) rfl ?_
                                  | refine NV.load_elem T rfl rfl rfl rfl (by assumption) (by first | exact map_get _ _ (by omega) | assumption) ?_
                                refine RL.step (Gd.none rfl) rfl rfl ?_
                                refine NV.pure T (by conv => lhs; whnf; arg 1; whnf) ?_
                                refine RL.step (Gd.none rfl) rfl rfl ?_
                                first
                                  | refine NV.load_var1 T rfl rfl rfl rfl (by repeat first | exact At.head _ _ | apply At.tail) rfl ?_
                                  | refine NV.load_varN T rfl rfl rfl rfl rfl (by repeat first | exact At.head _ _ | apply At.tail) (by exact (rfl : _ = [_])) rfl ?_
                                  | refine NV.load_elem T rfl rfl rfl rfl (by assumption) (by first | exact map_get _ _ (by omega) | assumption) ?_
                                refine RL.step (Gd.none rfl) rfl rfl ?_
                                refine NV.pure T (by conv => lhs; whnf; arg 1; whnf) ?_
                                refine RL.step (Gd.none rfl) rfl rfl ?_
                                refine NV.pure T (by conv => lhs; whnf; arg 1; whnf) ?_
                                refine RL.step (Gd.none rfl) rfl rfl ?_
                                first
                                  | refine NV.pure T (by conv => lhs; whnf; arg 1; whnf) ?_
                                  | refine NV.eqd T PL rfl rfl rfl Try.eqGuardType3 rfl ?_
                                refine RL.step (Gd.none rfl) rfl rfl ?_
                                refine NV.pure T (by conv => lhs; whnf; arg 1; whnf) ?_
                                refine RL.split 86 rfl (fun hs19 => ?_) (fun hs19 => ?_)
                                · try simp only [decide_eq_true_eq, decide_eq_false_iff_not, Bool.not_eq_true', Bool.not_eq_false', Int.not_lt, Int.not_le] at hs19
                                  first
                                    | (exfalso; first | omega | (simp at *; done) | (simp at *; omega))
                                    | (
                                      refine RL.guard_no rfl rfl rfl ?_
                                      refine RL.guard_no rfl rfl rfl ?_
                                      refine RL.guard_no rfl rfl rfl ?_
                                      refine RL.guard_no rfl rfl rfl ?_
                                      refine RL.guard_no rfl rfl rfl ?_
                                      refine RL.guard_no rfl rfl rfl ?_
                                      refine RL.guard_no rfl rfl rfl ?_
                                      refine RL.guard_no rfl rfl rfl ?_
                                      refine RL.guard_no rfl rfl rfl ?_
                                      refine RL.guard_no rfl rfl rfl ?_
                                      refine RL.guard_no rfl rfl rfl ?_
                                      refine RL.guard_no rfl rfl rfl ?_
                                      refine RL.step (Gd.none rfl) rfl rfl ?_
                                      refine NV.pure T (by conv => lhs; whnf; arg 1; whnf) ?_
                                      refine RL.step (Gd.none rfl) rfl rfl ?_
                                      first
                                        | refine NV.pure T (by conv => lhs; whnf; arg 1; whnf) ?_
                                        | refine NV.eqd T PL rfl rfl rfl Try.eqGuardType4 rfl ?_
                                      refine RL.step (Gd.none rfl) rfl rfl ?_
                                      refine NV.pure T (by conv => lhs; whnf; arg 1; whnf) ?_
                                      refine RL.nil _ _ _ _ ?_
                                      refine hK22 _ _ _ ?_
                                      refine SW.ret ?_
                                      refine retQ.ret (H' := H) (RVs.tmp (by conv => lhs; whnf) RVs.nil) (fun w hw => Sat.sub (by repeat first | exact List.Sublist.refl _ | apply List.Sublist.cons_cons | apply List.Sublist.cons) hw) ?_
                                      clear hK22 K22 hK13 K13 hK12 K12 hK10 K10 hK9 K9 hK8 K8 hK7 K7 hK6 K6 hK5 K5 hK4 K4 hK3 K3 hK2 K2 hK1 K1 hK0 K0
                                      first | exact ⟨rfl, rfl⟩ | (refine ⟨bool1 ?_, rfl⟩; simp; done) | (refine ⟨bool1 ?_, rfl⟩; simp; omega)
                                      )
                                · try simp only [decide_eq_true_eq, decide_eq_false_iff_not, Bool.not_eq_true', Bool.not_eq_false', Int.not_lt, Int.not_le] at hs19
                                  first
                                    | (exfalso; first | omega | (simp at *; done) | (simp at *; omega))
                                    | (
                                      refine RL.step (Gd.yes rfl rfl) rfl rfl ?_
                                      refine NV.pure T (by conv => lhs; whnf; arg 1; whnf) ?_
                                      refine RL.step (Gd.yes rfl rfl) rfl rfl ?_
                                      first
                                        | refine NV.pure T (by conv => lhs; whnf; arg 1; whnf) ?_
                                        | refine NV.eqd T PL rfl rfl rfl Try.eqGuardType3 rfl ?_
                                      refine RL.step (Gd.yes rfl rfl) rfl rfl ?_
                                      refine NV.pure T (by conv => lhs; whnf; arg 1; whnf) ?_
                                      refine RL.split 89 rfl (fun hs20 => ?_) (fun hs20 => ?_)
                                      · try simp only [decide_eq_true_eq, decide_eq_false_iff_not, Bool.not_eq_true', Bool.not_eq_false', Int.not_lt, Int.not_le] at hs20
                                        first
                                          | (exfalso; first | omega | (simp at *; done) | (simp at *; omega))
                                          | (
                                            refine RL.step (Gd.yes rfl rfl) rfl rfl ?_
                                            refine NV.pure T (by conv => lhs; whnf; arg 1; whnf) ?_
                                            refine RL.step (Gd.yes rfl rfl) rfl rfl ?_
                                            first
                                              | refine NV.load_var1 T rfl rfl rfl rfl (by repeat first | exact At.head _ _ | apply At.tail) rfl ?_
                                              | refine NV.load_varN T rfl rfl rfl rfl rfl (by repeat first | exact At.head _ _ | apply At.tail) (by exact (rfl : _ = [_])) rfl ?_
                                              | refine NV.load_elem T rfl rfl rfl rfl (by assumption) (by first | exact map_get _ _ (by omega) | assumption) ?_
                                            refine RL.step (Gd.yes rfl rfl) rfl rfl ?_
                                            refine NV.pure T (by conv => lhs; whnf; arg 1; whnf) ?_
                                            refine RL.step (Gd.yes rfl rfl) rfl rfl ?_
                                            refine NV.pure T (by conv => lhs; whnf; arg 1; whnf) ?_
                                            refine RL.step (Gd.yes rfl rfl) rfl rfl ?_
                                            refine NV.pure T (by conv => lhs; whnf; arg 1; whnf) ?_
                                            refine RL.split 94 rfl (fun hs21 => ?_) (fun hs21 => ?_)
                                            · try simp only [decide_eq_true_eq, decide_eq_false_iff_not, Bool.not_eq_true', Bool.not_eq_false', Int.not_lt, Int.not_le] at hs21
                                              first
                                                | (exfalso; first | omega | (simp at *; done) | (simp at *; omega))
                                                | (
                                                  refine RL.step (Gd.yes rfl rfl) rfl rfl ?_
                                                  refine NV.pure T (by conv => lhs; whnf; arg 1; whnf) ?_
                                                  refine RL.step (Gd.yes rfl rfl) rfl rfl ?_
                                                  first
                                                    | refine NV.load_var1 T rfl rfl rfl rfl (by repeat first | exact At.head _ _ | apply At.tail) rfl ?_
                                                    | refine NV.load_varN T rfl rfl rfl rfl rfl (by repeat first | exact At.head _ _ | apply At.tail) (by exact (rfl : _ = [_])) rfl ?_
                                                    | refine NV.load_elem T rfl rfl rfl rfl (by assumption) (by first | exact map_get _ _ (by omega) | assumption) ?_
                                                  refine RL.step (Gd.yes rfl rfl) rfl rfl ?_
                                                  refine NV.pure T (by conv => lhs; whnf; arg 1; whnf) ?_
                                                  refine RL.step (Gd.yes rfl rfl) rfl rfl ?_
                                                  refine NV.pure T (by conv => lhs; whnf; arg 1; whnf) ?_
                                                  refine RL.step (Gd.none rfl) rfl rfl ?_
                                                  refine NV.pure T (by conv => lhs; whnf; arg 1; whnf) ?_
                                                  refine RL.step (Gd.none rfl) rfl rfl ?_
                                                  first
                                                    | refine NV.pure T (by conv => lhs; whnf; arg 1; whnf) ?_
                                                    | refine NV.eqd T PL rfl rfl rfl Try.eqGuardType4 rfl ?_
                                                  refine RL.step (Gd.none rfl) rfl rfl ?_
                                                  refine NV.pure T (by conv => lhs; whnf; arg 1; whnf) ?_
                                                  refine RL.nil _ _ _ _ ?_
                                                  refine hK22 _ _ _ ?_
                                                  refine SW.ret ?_
                                                  refine retQ.ret (H' := H) (RVs.tmp (by conv => lhs; whnf) RVs.nil) (fun w hw => Sat.sub (by repeat first | exact List.Sublist.refl _ | apply List.Sublist.cons_cons | apply List.Sublist.cons) hw) ?_
                                                  clear hK22 K22 hK13 K13 hK12 K12 hK10 K10 hK9 K9 hK8 K8 hK7 K7 hK6 K6 hK5 K5 hK4 K4 hK3 K3 hK2 K2 hK1 K1 hK0 K0
                                                  first | exact ⟨rfl, rfl⟩ | (refine ⟨bool1 ?_, rfl⟩; simp; done) | (refine ⟨bool1 ?_, rfl⟩; simp; omega)
                                                  )
                                            · try simp only [decide_eq_true_eq, decide_eq_false_iff_not, Bool.not_eq_true', Bool.not_eq_false', Int.not_lt, Int.not_le] at hs21
                                              first
                                                | (exfalso; first | omega | (simp at *; done) | (simp at *; omega))
                                                | (
                                                  refine RL.guard_no rfl rfl rfl ?_
                                                  refine RL.guard_no rfl rfl rfl ?_
                                                  refine RL.guard_no rfl rfl rfl ?_
                                                  refine RL.step (Gd.yes rfl rfl) rfl rfl ?_
                                                  refine NV.pure T (by conv => lhs; whnf; arg 1; whnf) ?_
                                                  refine RL.step (Gd.none rfl) rfl rfl ?_
                                                  refine NV.pure T (by conv => lhs; whnf; arg 1; whnf) ?_
                                                  refine RL.step (Gd.none rfl) rfl rfl ?_
                                                  first
                                                    | refine NV.pure T (by conv => lhs; whnf; arg 1; whnf) ?_
                                                    | refine NV.eqd T PL rfl rfl rfl Try.eqGuardType4 rfl ?_
                                                  refine RL.step (Gd.none rfl) rfl rfl ?_
                                                  refine NV.pure T (by conv => lhs; whnf; arg 1; whnf) ?_
                                                  refine RL.nil _ _ _ _ ?_
                                                  refine hK22 _ _ _ ?_
                                                  refine SW.ret ?_
                                                  refine retQ.ret (H' := H) (RVs.tmp (by conv => lhs; whnf) RVs.nil) (fun w hw => Sat.sub (by repeat first | exact List.Sublist.refl _ | apply List.Sublist.cons_cons | apply List.Sublist.cons) hw) ?_
                                                  clear hK22 K22 hK13 K13 hK12 K12 hK10 K10 hK9 K9 hK8 K8 hK7 K7 hK6 K6 hK5 K5 hK4 K4 hK3 K3 hK2 K2 hK1 K1 hK0 K0
                                                  first | exact ⟨rfl, rfl⟩ | (refine ⟨bool1 ?_, rfl⟩; simp; done) | (refine ⟨bool1 ?_, rfl⟩; simp; omega)
                                                  )
                                            )
                                      · try simp only [decide_eq_true_eq, decide_eq_false_iff_not, Bool.not_eq_true', Bool.not_eq_false', Int.not_lt, Int.not_le] at hs20
                                        first
                                          | (exfalso; first | omega | (simp at *; done) | (simp at *; omega))
                                          | (
                                            refine RL.guard_no rfl rfl rfl ?_
                                            refine RL.guard_no rfl rfl rfl ?_
                                            refine RL.guard_no rfl rfl rfl ?_
                                            refine RL.step (Gd.yes rfl rfl) rfl rfl ?_
                                            refine NV.pure T (by conv => lhs; whnf; arg 1; whnf) ?_
                                            refine RL.step (Gd.yes rfl rfl) rfl rfl ?_
                                            refine NV.pure T (by conv => lhs; whnf; arg 1; whnf) ?_
                                            refine RL.guard_no rfl rfl rfl ?_
                                            refine RL.guard_no rfl rfl rfl ?_
                                            refine RL.guard_no rfl rfl rfl ?_
                                            refine RL.step (Gd.yes rfl rfl) rfl rfl ?_
                                            refine NV.pure T (by conv => lhs; whnf; arg 1; whnf) ?_
                                            refine RL.step (Gd.none rfl) rfl rfl ?_
                                            refine NV.pure T (by conv => lhs; whnf; arg 1; whnf) ?_
                                            refine RL.step (Gd.none rfl) rfl rfl ?_
                                            first
                                              | refine NV.pure T (by conv => lhs; whnf; arg 1; whnf) ?_
                                              | refine NV.eqd T PL rfl rfl rfl Try.eqGuardType4 rfl ?_
                                            refine RL.step (Gd.none rfl) rfl rfl ?_
                                            refine NV.pure T (by conv => lhs; whnf; arg 1; whnf) ?_
                                            refine RL.nil _ _ _ _ ?_
                                            refine hK22 _ _ _ ?_
                                            refine SW.ret ?_
                                            refine retQ.ret (H' := H) (RVs.tmp (by conv => lhs; whnf) RVs.nil) (fun w hw => Sat.sub (by repeat first | exact List.Sublist.refl _ | apply List.Sublist.cons_cons | apply List.Sublist.cons) hw) ?_
                                            clear hK22 K22 hK13 K13 hK12 K12 hK10 K10 hK9 K9 hK8 K8 hK7 K7 hK6 K6 hK5 K5 hK4 K4 hK3 K3 hK2 K2 hK1 K1 hK0 K0
                                            first | exact ⟨rfl, rfl⟩ | (refine ⟨bool1 ?_, rfl⟩; simp; done) | (refine ⟨bool1 ?_, rfl⟩; simp; omega)
                                            )
                                      )
                                )
                          )
                    )
              )
        )
end Go.Proofs.Ytnlifdnfkmlfbaa.M
