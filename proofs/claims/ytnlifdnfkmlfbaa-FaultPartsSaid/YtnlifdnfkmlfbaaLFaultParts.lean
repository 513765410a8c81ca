import Derived.Test.YtnlifdnfkmlfbaaFB
set_option linter.unusedVariables false
set_option linter.unusedSimpArgs false
namespace Go.Proofs.Ytnlifdnfkmlfbaa.M
open Go Go.Sep Go.Proofs
set_option maxRecDepth 10000
theorem sub_lo {w0 : World} {H : List Chunk} {sa : Option Addr} {n c k : Nat} {es : List Int} (hR : Rd w0 H sa n c 1 (es.map (.int .i64))) (hk : k ≤ n) : Rd w0 H (subA sa 0 c 1) (k - 0) (c - 0) 1 ((es.take k).map (.int .i64)) :=
  (hR.sub (l := 0) (h := k) (by omega) hk).as (by simp [List.map_take])
theorem sub_hi {w0 : World} {H : List Chunk} {sa : Option Addr} {n c k : Nat} {es : List Int} (hR : Rd w0 H sa n c 1 (es.map (.int .i64))) (hn : n = es.length) (hk : k ≤ n) : Rd w0 H (subA sa k c 1) (n - k) (c - k) 1 ((es.drop k).map (.int .i64)) :=
  (hR.sub (l := k) (h := n) hk (Nat.le_refl _)).as (by subst hn; rw [Nat.mul_one, Nat.mul_one, ← List.map_drop]; exact List.take_of_length_le (by simp))
theorem aft_split {a b x y : Int} {es : List Int} {k : Nat} (h : aft a b (es.take k) = some (x, y)) : aft a b es = aft x y (es.drop k) := by
  have := aft_append (es.take k) (es.drop k) a b
  rw [List.take_append_drop, h] at this
  exact this
theorem aft_full {a b : Int} {es : List Int} {n : Nat} (hn : n = es.length) : aft a b es = aft a b es := rfl
theorem after_bad {w0 : World} {H : List Chunk} (a b : Int) (c : Bool) (sa : Option Addr) (n cc : Nat) (es : List Int) (hR : Rd w0 H sa n cc 1 (es.map (.int .i64))) (hn : n = es.length) (hm : n ≤ 140737488351232) (hbad : okS a b c = false) : SC Try.prog w0 15 #[.agg #[.int .i64 a, .int .i64 b, .bool c], .slice sa n cc] H (fun v H' => v = .tuple #[.agg #[.int .i64 0, .int .i64 0, .bool false], .int .i64 2] ∧ H' = H) := by
  refine SC.enter Try.func15 rfl (Nat.le_of_ble_eq_true rfl) ?_
  refine SW.seq_k ?_
  intro K0 hK0
  refine SW.region _ _ _ _ ?_
  refine RL.step (Gd.none rfl) rfl rfl ?_
  refine NV.box rfl (by exact (rfl : _ = [_, _, _])) ?_
  intro b2_0
  refine RL.step (Gd.none rfl) rfl rfl ?_
  refine NV.alloc T rfl rfl rfl (by exact (rfl : _ = [_, _, _])) ?_
  intro b4_1
  refine RL.step (Gd.none rfl) rfl rfl ?_
  refine NV.pure T (by conv => lhs; whnf; arg 1; whnf) ?_
  refine RL.nil _ _ _ _ ?_
  refine hK0 _ _ _ ?_
  refine SW.seq_k ?_
  intro K1 hK1
  refine SW.region _ _ _ _ ?_
  refine RL.step (Gd.none rfl) rfl rfl ?_
  first
    | refine NV.load_var1 T rfl rfl rfl rfl (by repeat first | exact At.head _ _ | apply At.tail) rfl ?_
    | refine NV.load_varN T rfl rfl rfl rfl rfl (by repeat first | exact At.head _ _ | apply At.tail) (by exact (rfl : _ = [_, _, _])) rfl ?_
    | refine NV.load_elem T rfl rfl rfl rfl hR.cons.cons (by first | exact map_get _ _ (by omega) | assumption) ?_
  refine RL.step (Gd.none rfl) rfl rfl ?_
  refine NV.call rfl rfl rfl fun13 rfl rfl (check_bad a b c hbad) ?_
  rintro _ _ ⟨rfl, rfl⟩
  refine RL.step (Gd.none rfl) rfl rfl ?_
  refine NV.pure T (by conv => lhs; whnf; arg 1; whnf) ?_
  refine RL.nil _ _ _ _ ?_
  refine hK1 _ _ _ ?_
  refine SW.seq_k ?_
  intro K2 hK2
  refine SW.seq_k ?_
  intro K3 hK3
  refine SW.region _ _ _ _ ?_
  refine RL.step (Gd.none rfl) rfl rfl ?_
  refine NV.pure T (by conv => lhs; whnf; arg 1; whnf) ?_
  refine RL.step (Gd.none rfl) rfl rfl ?_
  refine NV.pure T (by conv => lhs; whnf; arg 1; whnf) ?_
  refine RL.step (Gd.none rfl) rfl rfl ?_
  refine NV.pure T (by conv => lhs; whnf; arg 1; whnf) ?_
  refine RL.nil _ _ _ _ ?_
  refine hK3 _ _ _ ?_
  refine SW.block ?_
  refine SW.loop (fun m fr ds HH => ∃ (frU : Fr), m = 0 ∧ (True) ∧ fr = (upd (upd (upd (upd (upd (upd frU 2 (.pointer (some ⟨b2_0, 0, none⟩))) 4 (.pointer (some ⟨b4_1, 0, none⟩))) 6 ((.int .i64 2))) 11 ((.slice sa n cc))) 12 ((.int .i64 n))) 13 ((.int .i64 0))) ∧ ds = [] ∧ HH = (.var b4_1 25 [.int .i64 0, .int .i64 0, .bool false] :: .var b2_0 25 [.int .i64 a, .int .i64 b, .bool c] :: H)) (n := 0) ?_ ?_
  · exact ⟨_, rfl, trivial, ((@upd_eta _ 2 _ rfl).trans ((@upd_eta _ 4 _ rfl).trans ((@upd_eta _ 6 _ rfl).trans ((@upd_eta _ 11 _ rfl).trans ((@upd_eta _ 12 _ rfl).trans (@upd_eta _ 13 _ rfl)))))), rfl, rfl⟩
  · rintro m fr ds HH ⟨frU, rfl, -, rfl, rfl, rfl⟩
    refine SW.seq_k ?_
    intro K4 hK4
    refine SW.region _ _ _ _ ?_
    refine RL.step (Gd.none rfl) rfl rfl ?_
    refine NV.pure T (by conv => lhs; whnf; arg 1; whnf) ?_
    refine RL.nil _ _ _ _ ?_
    refine hK4 _ _ _ ?_
    refine SW.seq_k ?_
    intro K5 hK5
    refine SW.cond rfl (fun hc0 => ?_) (fun hc0 => ?_)
    · try simp only [decide_eq_true_eq, decide_eq_false_iff_not, Bool.not_eq_true', Bool.not_eq_false', Int.not_lt, Int.not_le] at hc0
      refine SW.skip ?_
      refine hK5 _ _ _ ?_
      refine SW.seq_k ?_
      intro K6 hK6
      refine SW.block ?_
      refine SW.seq_k ?_
      intro K7 hK7
      refine SW.region _ _ _ _ ?_
      refine RL.step (Gd.none rfl) rfl rfl ?_
      first
        | refine NV.index_array T rfl rfl rfl rfl rfl (by omega) (by omega) ?_
        | refine NV.index_slice T rfl rfl rfl rfl rfl hR.cons.cons (by omega) (by omega) ?_
      refine RL.step (Gd.none rfl) rfl rfl ?_
      first
        | refine NV.load_var1 T rfl rfl rfl rfl (by repeat first | exact At.head _ _ | apply At.tail) rfl ?_
        | refine NV.load_varN T rfl rfl rfl rfl rfl (by repeat first | exact At.head _ _ | apply At.tail) (by exact (rfl : _ = [_])) rfl ?_
        | refine NV.load_elem T rfl rfl rfl rfl hR.cons.cons (by first | exact map_get _ _ (by omega) | assumption) ?_
      refine RL.step (Gd.none rfl) rfl rfl ?_
      refine NV.pure T (by conv => lhs; whnf; arg 1; whnf) ?_
      refine RL.nil _ _ _ _ ?_
      refine hK7 _ _ _ ?_
      refine SW.seq_k ?_
      intro K8 hK8
      refine SW.seq_k ?_
      intro K9 hK9
      refine SW.region _ _ _ _ ?_
      refine RL.step (Gd.none rfl) rfl rfl ?_
      refine NV.pure T (by conv => lhs; whnf; arg 1; whnf) ?_
      refine RL.step (Gd.none rfl) rfl rfl ?_
      refine NV.pure T (by conv => lhs; whnf; arg 1; whnf) ?_
      refine RL.nil _ _ _ _ ?_
      refine hK9 _ _ _ ?_
      refine SW.cond_t rfl ?_
      refine SW.exit ?_
      refine hK2 _ _ _ ?_
      refine SW.seq_k ?_
      intro K10 hK10
      refine SW.seq_k ?_
      intro K11 hK11
      refine SW.region _ _ _ _ ?_
      refine RL.step (Gd.none rfl) rfl rfl ?_
      refine NV.pure T (by conv => lhs; whnf; arg 1; whnf) ?_
      refine RL.step (Gd.none rfl) rfl rfl ?_
      refine NV.pure T (by conv => lhs; whnf; arg 1; whnf) ?_
      refine RL.nil _ _ _ _ ?_
      refine hK11 _ _ _ ?_
      refine SW.cond_t rfl ?_
      refine SW.seq_k ?_
      intro K12 hK12
      refine SW.region _ _ _ _ ?_
      refine RL.step (Gd.none rfl) rfl rfl ?_
      refine NV.pure T (rfl : _ = some (Value.agg #[_, _, _])) ?_
      refine RL.step (Gd.none rfl) rfl rfl ?_
      refine NV.pure T (by conv => lhs; whnf; arg 1; whnf) ?_
      refine RL.step (Gd.none rfl) rfl rfl ?_
      first
        | refine NV.store_var1 T rfl rfl rfl rfl (by conv => lhs; whnf) rfl (by repeat first | exact At.head _ _ | apply At.tail) rfl (by exact (rfl : _ = [_, _, _])) ?_
        | refine NV.store_var T rfl rfl rfl (by exact (rfl : _ = [_, _, _])) rfl rfl (by repeat first | exact At.head _ _ | apply At.tail) (Nat.le_of_ble_eq_true rfl) (by exact (rfl : _ = [_, _, _])) ?_
        | refine NV.store_elem T rfl rfl rfl rfl (by conv => lhs; whnf) rfl (by repeat first | exact At.head _ _ | apply At.tail) (by omega) ?_
      refine RL.step (Gd.none rfl) rfl rfl ?_
      refine NV.pure T (by conv => lhs; whnf; arg 1; whnf) ?_
      refine RL.nil _ _ _ _ ?_
      refine hK12 _ _ _ ?_
      refine SW.ret ?_
      refine retQ.ret (H' := H) (by first | exact RVs.var1 T rfl rfl rfl (by repeat first | exact At.head _ _ | apply At.tail) rfl (RVs.tmp (by conv => lhs; whnf) RVs.nil) | exact RVs.varN T rfl rfl rfl rfl (by repeat first | exact At.head _ _ | apply At.tail) (by exact (rfl : _ = [_, _, _])) rfl (RVs.tmp (by conv => lhs; whnf) RVs.nil)) (fun w hw => Sat.sub (by repeat first | exact List.Sublist.refl _ | apply List.Sublist.cons_cons | apply List.Sublist.cons) hw) ?_
      clear hK12 K12 hK11 K11 hK10 K10 hK9 K9 hK8 K8 hK7 K7 hK6 K6 hK5 K5 hK4 K4 hK3 K3 hK2 K2 hK1 K1 hK0 K0
      exact ⟨rfl, rfl⟩
    · try simp only [decide_eq_true_eq, decide_eq_false_iff_not, Bool.not_eq_true', Bool.not_eq_false', Int.not_lt, Int.not_le] at hc0
      refine SW.exit ?_
      refine hK2 _ _ _ ?_
      refine SW.seq_k ?_
      intro K13 hK13
      refine SW.seq_k ?_
      intro K14 hK14
      refine SW.region _ _ _ _ ?_
      refine RL.step (Gd.none rfl) rfl rfl ?_
      refine NV.pure T (by conv => lhs; whnf; arg 1; whnf) ?_
      refine RL.step (Gd.none rfl) rfl rfl ?_
      refine NV.pure T (by conv => lhs; whnf; arg 1; whnf) ?_
      refine RL.nil _ _ _ _ ?_
      refine hK14 _ _ _ ?_
      refine SW.cond_t rfl ?_
      refine SW.seq_k ?_
      intro K15 hK15
      refine SW.region _ _ _ _ ?_
      refine RL.step (Gd.none rfl) rfl rfl ?_
      refine NV.pure T (rfl : _ = some (Value.agg #[_, _, _])) ?_
      refine RL.step (Gd.none rfl) rfl rfl ?_
      refine NV.pure T (by conv => lhs; whnf; arg 1; whnf) ?_
      refine RL.step (Gd.none rfl) rfl rfl ?_
      first
        | refine NV.store_var1 T rfl rfl rfl rfl (by conv => lhs; whnf) rfl (by repeat first | exact At.head _ _ | apply At.tail) rfl (by exact (rfl : _ = [_, _, _])) ?_
        | refine NV.store_var T rfl rfl rfl (by exact (rfl : _ = [_, _, _])) rfl rfl (by repeat first | exact At.head _ _ | apply At.tail) (Nat.le_of_ble_eq_true rfl) (by exact (rfl : _ = [_, _, _])) ?_
        | refine NV.store_elem T rfl rfl rfl rfl (by conv => lhs; whnf) rfl (by repeat first | exact At.head _ _ | apply At.tail) (by omega) ?_
      refine RL.step (Gd.none rfl) rfl rfl ?_
      refine NV.pure T (by conv => lhs; whnf; arg 1; whnf) ?_
      refine RL.nil _ _ _ _ ?_
      refine hK15 _ _ _ ?_
      refine SW.ret ?_
      refine retQ.ret (H' := H) (by first | exact RVs.var1 T rfl rfl rfl (by repeat first | exact At.head _ _ | apply At.tail) rfl (RVs.tmp (by conv => lhs; whnf) RVs.nil) | exact RVs.varN T rfl rfl rfl rfl (by repeat first | exact At.head _ _ | apply At.tail) (by exact (rfl : _ = [_, _, _])) rfl (RVs.tmp (by conv => lhs; whnf) RVs.nil)) (fun w hw => Sat.sub (by repeat first | exact List.Sublist.refl _ | apply List.Sublist.cons_cons | apply List.Sublist.cons) hw) ?_
      clear hK15 K15 hK14 K14 hK13 K13 hK5 K5 hK4 K4 hK3 K3 hK2 K2 hK1 K1 hK0 K0
      exact ⟨rfl, rfl⟩
/-- What After answers. -/
def aftA (a b : Int) (c : Bool) (es : List Int) : Value := if okS a b c then aftV a b es else .tuple #[.agg #[.int .i64 0, .int .i64 0, .bool false], .int .i64 2]
theorem parts_bad {w0 : World} {H : List Chunk} (a b : Int) (c' : Bool) (hbad : okS a b c' = false) (sa : Option Addr) (n c : Nat) (at_ : Int) (k : Nat) (es : List Int) (hR : ∀ H, Rd w0 H sa n c 1 (es.map (.int .i64))) (hn : n = es.length) (hcap : n ≤ c) (h0 : 0 ≤ at_) (h1 : at_ ≤ 65535) (hk : at_.tmod ((n : Int) + 1) = k) (hkn : k ≤ n) (hs : n ≤ 5000) : SC Try.prog w0 5 #[.agg #[.int .i64 a, .int .i64 b, .bool c'], .slice sa n c, .int .u16 at_] H (fun v H' => v = .bool true ∧ H' = H) := by
  refine SC.enter Try.func5 rfl (Nat.le_of_ble_eq_true rfl) ?_
  refine SW.seq_k ?_
  intro K0 hK0
  refine SW.region _ _ _ _ ?_
  refine RL.step (Gd.none rfl) rfl rfl ?_
  refine NV.box rfl (by exact (rfl : _ = [_, _, _])) ?_
  intro b3_0
  refine RL.step (Gd.none rfl) rfl rfl ?_
  refine NV.pure T (by conv => lhs; whnf; arg 1; whnf) ?_
  refine RL.nil _ _ _ _ ?_
  refine hK0 _ _ _ ?_
  refine SW.seq_k ?_
  intro K1 hK1
  refine SW.seq_k ?_
  intro K2 hK2
  refine SW.region _ _ _ _ ?_
  refine RL.step (Gd.none rfl) rfl rfl ?_
  refine NV.call rfl rfl rfl fun8 rfl rfl (alive) ?_
  rintro _ _ ⟨rfl, rfl⟩
  refine RL.step (Gd.none rfl) rfl rfl ?_
  refine NV.pure T (by conv => lhs; whnf; arg 1; whnf) ?_
  refine RL.nil _ _ _ _ ?_
  refine hK2 _ _ _ ?_
  refine SW.cond_f rfl ?_
  refine SW.skip ?_
  refine hK1 _ _ _ ?_
  refine SW.seq_k ?_
  intro K3 hK3
  refine SW.seq_k ?_
  intro K4 hK4
  refine SW.region _ _ _ _ ?_
  refine RL.step (Gd.none rfl) rfl rfl ?_
  refine NV.pure T (by conv => lhs; whnf; arg 1; whnf) ?_
  refine RL.step (Gd.none rfl) rfl rfl ?_
  refine NV.pure T (by conv => lhs; whnf; arg 1; whnf) ?_
  refine RL.step (Gd.none rfl) rfl rfl ?_
  refine NV.pure T (by conv => lhs; whnf; arg 1; whnf) ?_
  refine RL.nil _ _ _ _ ?_
  refine hK4 _ _ _ ?_
  refine SW.cond rfl (fun hc1 => ?_) (fun hc1 => ?_)
  · try simp only [decide_eq_true_eq, decide_eq_false_iff_not, Bool.not_eq_true', Bool.not_eq_false', Int.not_lt, Int.not_le] at hc1
    exfalso; first | omega | (simp at hs0; done)
  · try simp only [decide_eq_true_eq, decide_eq_false_iff_not, Bool.not_eq_true', Bool.not_eq_false', Int.not_lt, Int.not_le] at hc1
    refine SW.skip ?_
    refine hK3 _ _ _ ?_
    refine SW.seq_k ?_
    intro K5 hK5
    refine SW.region _ _ _ _ ?_
    refine RL.step (Gd.none rfl) rfl rfl ?_
    first
      | refine NV.load_var1 T rfl rfl rfl rfl (by repeat first | exact At.head _ _ | apply At.tail) rfl ?_
      | refine NV.load_varN T rfl rfl rfl rfl rfl (by repeat first | exact At.head _ _ | apply At.tail) (by exact (rfl : _ = [_, _, _])) rfl ?_
      | refine NV.load_elem T rfl rfl rfl rfl (by assumption) (by first | exact map_get _ _ (by omega) | assumption) ?_
    refine RL.step (Gd.none rfl) rfl rfl ?_
    refine NV.pure T (by conv => lhs; whnf; arg 1; whnf) ?_
    refine RL.step (Gd.none rfl) rfl rfl ?_
    refine NV.call rfl rfl rfl fun15 rfl rfl (after_bad a b c' sa n c es (hR _) hn (by omega) hbad) ?_
    rintro _ _ ⟨rfl, rfl⟩
    refine RL.step (Gd.none rfl) rfl rfl ?_
    refine NV.pure T (by conv => lhs; whnf; arg 1; whnf) ?_
    refine RL.step (Gd.none rfl) rfl rfl ?_
    refine NV.pure T (by conv => lhs; whnf; arg 1; whnf) ?_
    refine RL.step (Gd.none rfl) rfl rfl ?_
    refine NV.pure T (by conv => lhs; whnf; arg 1; whnf) ?_
    refine RL.step (Gd.none rfl) rfl rfl ?_
    refine NV.alloc T rfl rfl rfl (by exact (rfl : _ = [_, _, _])) ?_
    intro b7_1
    refine RL.step (Gd.none rfl) rfl rfl ?_
    first
      | refine NV.store_var1 T rfl rfl rfl rfl (by conv => lhs; whnf) rfl (by repeat first | exact At.head _ _ | apply At.tail) rfl (by exact (rfl : _ = [_, _, _])) ?_
      | refine NV.store_var T rfl rfl rfl (by exact (rfl : _ = [_, _, _])) rfl rfl (by repeat first | exact At.head _ _ | apply At.tail) (Nat.le_of_ble_eq_true rfl) (by exact (rfl : _ = [_, _, _])) ?_
      | refine NV.store_elem T rfl rfl rfl rfl (by conv => lhs; whnf) rfl (by repeat first | exact At.head _ _ | apply At.tail) (by omega) ?_
    refine RL.step (Gd.none rfl) rfl rfl ?_
    refine NV.pure T (by conv => lhs; whnf; arg 1; whnf) ?_
    refine RL.nil _ _ _ _ ?_
    refine hK5 _ _ _ ?_
    refine SW.seq_k ?_
    intro K6 hK6
    refine SW.region _ _ _ _ ?_
    refine RL.step (Gd.none rfl) rfl rfl ?_
    refine NV.pure T (by conv => lhs; whnf; arg 1; whnf) ?_
    refine RL.step (Gd.none rfl) rfl rfl ?_
    refine NV.convI T rfl rfl rfl rfl (by exact (by omega : (-9223372036854775808 : Int) ≤ at_)) (by exact (by omega : at_ ≤ 9223372036854775807)) ?_
    refine RL.step (Gd.none rfl) rfl rfl ?_
    refine NV.pure T (by conv => lhs; whnf; arg 1; whnf) ?_
    refine RL.step (Gd.none rfl) rfl rfl ?_
    refine NV.pure T (by conv => lhs; whnf; arg 1; whnf) ?_
    refine RL.step (Gd.none rfl) rfl rfl ?_
    first
      | refine NV.arith rfl rfl rfl rfl (by omega) (by omega) ?_
      | refine NV.pure T (by conv => lhs; whnf; arg 1; whnf) ?_
    refine RL.step (Gd.none rfl) rfl rfl ?_
    refine NV.rem rfl rfl rfl (by omega) hk ?_
    refine RL.step (Gd.none rfl) rfl rfl ?_
    refine NV.pure T (by conv => lhs; whnf; arg 1; whnf) ?_
    refine RL.nil _ _ _ _ ?_
    refine hK6 _ _ _ ?_
    refine SW.seq_k ?_
    intro K7 hK7
    refine SW.draw [(32, 0), (33, 1), (34, 2), (35, 3), (36, 4), (31, 5), (37, 6), (38, 7), (10, 8), (11, 10)] [[], [], [], [1, 2], [0, 3, 1, 2], [4, 0, 3, 1, 2], [5, 4, 0, 3, 1, 2], [5, 4, 0, 3, 1, 2], [], [8, 6, 5, 4, 0, 3, 1, 2], [7, 5, 4, 0, 3, 1, 2, 9, 8, 6]] mixed (by kernel_rfl) (by kernel_rfl) ?_
    refine RD.q rfl rfl (Gd.none rfl) (by first | exact QV.load_var1 T rfl rfl rfl rfl (by repeat first | exact At.head _ _ | apply At.tail) rfl | exact QV.load_varN T rfl rfl rfl rfl rfl (by repeat first | exact At.head _ _ | apply At.tail) (by exact (rfl : _ = [_, _, _])) rfl | exact QV.load_elem T rfl rfl rfl rfl (by assumption) (by first | exact map_get _ _ (by omega) | assumption)) ?_
    refine RD.q rfl rfl (Gd.none rfl) (pev_sound T (by conv => lhs; whnf; arg 1; whnf)) ?_
    refine RD.q rfl rfl (Gd.none rfl) (pev_sound T (by conv => lhs; whnf; arg 1; whnf)) ?_
    refine RD.q rfl rfl (Gd.none rfl) (by first | exact QV.slice (l := 0) (h := k) T rfl rfl rfl rfl rfl ⟨_, rfl⟩ (by omega) (by omega) | exact QV.slice (l := k) (h := n) T rfl rfl rfl rfl ⟨_, rfl⟩ rfl (by omega) (by omega)) ?_
    apply RD.share
    · intro hsh0
      refine RD.many rfl rfl (.cons ?_ (.cons ?_ .nil))
      · skip
        refine RD1.nv rfl (Gd.none rfl) ?_
        refine NV.call rfl rfl rfl fun15 rfl rfl (after_bad a b c' _ _ _ (es.take k) (sub_lo (hR _) hkn) (by simp; omega) (by omega) hbad) ?_
        rintro _ _ ⟨rfl, rfl⟩
        refine ⟨Stab.nil, ?_⟩
        refine RD.q rfl rfl (Gd.none rfl) (pev_sound T (by conv => lhs; whnf; arg 1; whnf)) ?_
        refine RD.q rfl rfl (Gd.none rfl) (pev_sound T (by conv => lhs; whnf; arg 1; whnf)) ?_
        refine RD.q rfl rfl (Gd.none rfl) (pev_sound T (by conv => lhs; whnf; arg 1; whnf)) ?_
        refine RD.nv rfl rfl rfl (Gd.none rfl) ?_
        refine NV.alloc T rfl rfl rfl (by exact (rfl : _ = [_, _, _])) ?_
        intro b10_2
        refine ⟨(Stab.cons rfl (Gd.none rfl) (pev_sound T rfl) (Stab.cons rfl (Gd.none rfl) (pev_sound T rfl) (Stab.cons rfl (Gd.none rfl) (pev_sound T rfl) (Stab.cons rfl (Gd.none rfl) (by first | exact QV.slice (l := 0) (h := k) T rfl rfl rfl rfl rfl ⟨_, rfl⟩ (by omega) (by omega) | exact QV.slice (l := k) (h := n) T rfl rfl rfl rfl ⟨_, rfl⟩ rfl (by omega) (by omega)) (Stab.cons rfl (Gd.none rfl) (pev_sound T rfl) (Stab.cons rfl (Gd.none rfl) (pev_sound T rfl) (Stab.cons rfl (Gd.none rfl) (by first | exact QV.load_var1 T rfl rfl rfl rfl (by repeat first | exact At.head _ _ | apply At.tail) rfl | exact QV.load_varN T rfl rfl rfl rfl rfl (by repeat first | exact At.head _ _ | apply At.tail) rfl rfl | exact QV.load_elem T rfl rfl rfl rfl (by assumption) (by first | exact map_get _ _ (by omega) | assumption)) Stab.nil))))))), ?_⟩
        refine RD.nv rfl rfl rfl (Gd.none rfl) ?_
        first
          | refine NV.store_var1 T rfl rfl rfl rfl (by conv => lhs; whnf) rfl (by repeat first | exact At.head _ _ | apply At.tail) rfl (by exact (rfl : _ = [_, _, _])) ?_
          | refine NV.store_var T rfl rfl rfl (by exact (rfl : _ = [_, _, _])) rfl rfl (by repeat first | exact At.head _ _ | apply At.tail) (Nat.le_of_ble_eq_true rfl) (by exact (rfl : _ = [_, _, _])) ?_
          | refine NV.store_elem T rfl rfl rfl rfl (by conv => lhs; whnf) rfl (by repeat first | exact At.head _ _ | apply At.tail) (by omega) ?_
        refine ⟨(Stab.cons rfl (Gd.none rfl) (pev_sound T rfl) Stab.nil), ?_⟩
        refine RD.q rfl rfl (Gd.none rfl) (pev_sound T (by conv => lhs; whnf; arg 1; whnf)) ?_
        refine RD.k rfl rfl ?_
        exact hsh0 b10_2
      · skip
        refine RD1.nv rfl (Gd.none rfl) ?_
        refine NV.alloc T rfl rfl rfl (by exact (rfl : _ = [_, _, _])) ?_
        intro b10_2
        refine ⟨(Stab.cons rfl (Gd.none rfl) (by first | exact QV.slice (l := 0) (h := k) T rfl rfl rfl rfl rfl ⟨_, rfl⟩ (by omega) (by omega) | exact QV.slice (l := k) (h := n) T rfl rfl rfl rfl ⟨_, rfl⟩ rfl (by omega) (by omega)) (Stab.cons rfl (Gd.none rfl) (pev_sound T rfl) (Stab.cons rfl (Gd.none rfl) (pev_sound T rfl) (Stab.cons rfl (Gd.none rfl) (by first | exact QV.load_var1 T rfl rfl rfl rfl (by repeat first | exact At.head _ _ | apply At.tail) rfl | exact QV.load_varN T rfl rfl rfl rfl rfl (by repeat first | exact At.head _ _ | apply At.tail) rfl rfl | exact QV.load_elem T rfl rfl rfl rfl (by assumption) (by first | exact map_get _ _ (by omega) | assumption)) Stab.nil)))), ?_⟩
        refine RD.nv rfl rfl rfl (Gd.none rfl) ?_
        refine NV.call rfl rfl rfl fun15 rfl rfl (after_bad a b c' _ _ _ (es.take k) (sub_lo (hR _) hkn) (by simp; omega) (by omega) hbad) ?_
        rintro _ _ ⟨rfl, rfl⟩
        refine ⟨Stab.nil, ?_⟩
        refine RD.q rfl rfl (Gd.none rfl) (pev_sound T (by conv => lhs; whnf; arg 1; whnf)) ?_
        refine RD.q rfl rfl (Gd.none rfl) (pev_sound T (by conv => lhs; whnf; arg 1; whnf)) ?_
        refine RD.q rfl rfl (Gd.none rfl) (pev_sound T (by conv => lhs; whnf; arg 1; whnf)) ?_
        refine RD.nv rfl rfl rfl (Gd.none rfl) ?_
        first
          | refine NV.store_var1 T rfl rfl rfl rfl (by conv => lhs; whnf) rfl (by repeat first | exact At.head _ _ | apply At.tail) rfl (by exact (rfl : _ = [_, _, _])) ?_
          | refine NV.store_var T rfl rfl rfl (by exact (rfl : _ = [_, _, _])) rfl rfl (by repeat first | exact At.head _ _ | apply At.tail) (Nat.le_of_ble_eq_true rfl) (by exact (rfl : _ = [_, _, _])) ?_
          | refine NV.store_elem T rfl rfl rfl rfl (by conv => lhs; whnf) rfl (by repeat first | exact At.head _ _ | apply At.tail) (by omega) ?_
        refine ⟨(Stab.cons rfl (Gd.none rfl) (pev_sound T rfl) Stab.nil), ?_⟩
        refine RD.q rfl rfl (Gd.none rfl) (pev_sound T (by conv => lhs; whnf; arg 1; whnf)) ?_
        refine RD.k rfl rfl ?_
        exact hsh0 b10_2
    · intro b10_2
      refine hK7 _ _ _ ?_
      refine SW.seq_k ?_
      intro K8 hK8
      refine SW.seq_k ?_
      intro K9 hK9
      refine SW.region _ _ _ _ ?_
      refine RL.step (Gd.none rfl) rfl rfl ?_
      refine NV.pure T (by conv => lhs; whnf; arg 1; whnf) ?_
      refine RL.step (Gd.none rfl) rfl rfl ?_
      refine NV.pure T (by conv => lhs; whnf; arg 1; whnf) ?_
      refine RL.nil _ _ _ _ ?_
      refine hK9 _ _ _ ?_
      refine SW.cond_t rfl ?_
      refine SW.seq_k ?_
      intro K10 hK10
      refine SW.region _ _ _ _ ?_
      refine RL.step (Gd.none rfl) rfl rfl ?_
      refine NV.pure T (by conv => lhs; whnf; arg 1; whnf) ?_
      refine RL.step (Gd.none rfl) rfl rfl ?_
      refine NV.pure T (by conv => lhs; whnf; arg 1; whnf) ?_
      refine RL.step (Gd.none rfl) rfl rfl ?_
      first
        | refine NV.pure T (by conv => lhs; whnf; arg 1; whnf) ?_
        | refine NV.eqd T PL rfl rfl rfl Try.eqGuardType26 rfl ?_
      refine RL.step (Gd.none rfl) rfl rfl ?_
      refine NV.pure T (by conv => lhs; whnf; arg 1; whnf) ?_
      refine RL.nil _ _ _ _ ?_
      refine hK10 _ _ _ ?_
      refine SW.ret ?_
      refine retQ.ret (H' := H) (RVs.tmp (by conv => lhs; whnf) RVs.nil) (fun w hw => Sat.sub (by repeat first | exact List.Sublist.refl _ | apply List.Sublist.cons_cons | apply List.Sublist.cons) hw) ?_
      clear hK10 K10 hK9 K9 hK8 K8 hK7 K7 hK6 K6 hK5 K5 hK4 K4 hK3 K3 hK2 K2 hK1 K1 hK0 K0
      first | exact ⟨rfl, rfl⟩ | (refine ⟨bool1 ?_, rfl⟩; simp)
theorem parts_no {w0 : World} {H : List Chunk} (a b : Int) (ha : 0 ≤ a) (ha2 : a ≤ 263) (hb : 0 ≤ b) (hb2 : b ≤ 255)(sa : Option Addr) (n c : Nat) (at_ : Int) (k : Nat) (es : List Int) (hR : ∀ H, Rd w0 H sa n c 1 (es.map (.int .i64))) (hn : n = es.length) (hcap : n ≤ c) (h0 : 0 ≤ at_) (h1 : at_ ≤ 65535) (hk : at_.tmod ((n : Int) + 1) = k) (hkn : k ≤ n) (hs : n ≤ 5000) (hx : aft a b (es.take k) = none) : SC Try.prog w0 5 #[sv a b, .slice sa n c, .int .u16 at_] H (fun v H' => v = .bool true ∧ H' = H) := by
  refine SC.enter Try.func5 rfl (Nat.le_of_ble_eq_true rfl) ?_
  refine SW.seq_k ?_
  intro K0 hK0
  refine SW.region _ _ _ _ ?_
  refine RL.step (Gd.none rfl) rfl rfl ?_
  refine NV.box rfl (by exact (rfl : _ = [_, _, _])) ?_
  intro b3_0
  refine RL.step (Gd.none rfl) rfl rfl ?_
  refine NV.pure T (by conv => lhs; whnf; arg 1; whnf) ?_
  refine RL.nil _ _ _ _ ?_
  refine hK0 _ _ _ ?_
  refine SW.seq_k ?_
  intro K1 hK1
  refine SW.seq_k ?_
  intro K2 hK2
  refine SW.region _ _ _ _ ?_
  refine RL.step (Gd.none rfl) rfl rfl ?_
  refine NV.call rfl rfl rfl fun8 rfl rfl (alive) ?_
  rintro _ _ ⟨rfl, rfl⟩
  refine RL.step (Gd.none rfl) rfl rfl ?_
  refine NV.pure T (by conv => lhs; whnf; arg 1; whnf) ?_
  refine RL.nil _ _ _ _ ?_
  refine hK2 _ _ _ ?_
  refine SW.cond_f rfl ?_
  refine SW.skip ?_
  refine hK1 _ _ _ ?_
  refine SW.seq_k ?_
  intro K3 hK3
  refine SW.seq_k ?_
  intro K4 hK4
  refine SW.region _ _ _ _ ?_
  refine RL.step (Gd.none rfl) rfl rfl ?_
  refine NV.pure T (by conv => lhs; whnf; arg 1; whnf) ?_
  refine RL.step (Gd.none rfl) rfl rfl ?_
  refine NV.pure T (by conv => lhs; whnf; arg 1; whnf) ?_
  refine RL.step (Gd.none rfl) rfl rfl ?_
  refine NV.pure T (by conv => lhs; whnf; arg 1; whnf) ?_
  refine RL.nil _ _ _ _ ?_
  refine hK4 _ _ _ ?_
  refine SW.cond rfl (fun hc1 => ?_) (fun hc1 => ?_)
  · try simp only [decide_eq_true_eq, decide_eq_false_iff_not, Bool.not_eq_true', Bool.not_eq_false', Int.not_lt, Int.not_le] at hc1
    exfalso; first | omega | (simp at hs0; done)
  · try simp only [decide_eq_true_eq, decide_eq_false_iff_not, Bool.not_eq_true', Bool.not_eq_false', Int.not_lt, Int.not_le] at hc1
    refine SW.skip ?_
    refine hK3 _ _ _ ?_
    refine SW.seq_k ?_
    intro K5 hK5
    refine SW.region _ _ _ _ ?_
    refine RL.step (Gd.none rfl) rfl rfl ?_
    first
      | refine NV.load_var1 T rfl rfl rfl rfl (by repeat first | exact At.head _ _ | apply At.tail) rfl ?_
      | refine NV.load_varN T rfl rfl rfl rfl rfl (by repeat first | exact At.head _ _ | apply At.tail) (by exact (rfl : _ = [_, _, _])) rfl ?_
      | refine NV.load_elem T rfl rfl rfl rfl (by assumption) (by first | exact map_get _ _ (by omega) | assumption) ?_
    refine RL.step (Gd.none rfl) rfl rfl ?_
    refine NV.pure T (by conv => lhs; whnf; arg 1; whnf) ?_
    refine RL.step (Gd.none rfl) rfl rfl ?_
    refine NV.call rfl rfl rfl fun15 rfl rfl (aft_no a b sa n c es (hR _) hn (by omega) ha ha2 hb hb2 (aft_none k hx)) ?_
    rintro _ _ ⟨rfl, rfl⟩
    refine RL.step (Gd.none rfl) rfl rfl ?_
    refine NV.pure T (by conv => lhs; whnf; arg 1; whnf) ?_
    refine RL.step (Gd.none rfl) rfl rfl ?_
    refine NV.pure T (by conv => lhs; whnf; arg 1; whnf) ?_
    refine RL.step (Gd.none rfl) rfl rfl ?_
    refine NV.pure T (by conv => lhs; whnf; arg 1; whnf) ?_
    refine RL.step (Gd.none rfl) rfl rfl ?_
    refine NV.alloc T rfl rfl rfl (by exact (rfl : _ = [_, _, _])) ?_
    intro b7_1
    refine RL.step (Gd.none rfl) rfl rfl ?_
    first
      | refine NV.store_var1 T rfl rfl rfl rfl (by conv => lhs; whnf) rfl (by repeat first | exact At.head _ _ | apply At.tail) rfl (by exact (rfl : _ = [_, _, _])) ?_
      | refine NV.store_var T rfl rfl rfl (by exact (rfl : _ = [_, _, _])) rfl rfl (by repeat first | exact At.head _ _ | apply At.tail) (Nat.le_of_ble_eq_true rfl) (by exact (rfl : _ = [_, _, _])) ?_
      | refine NV.store_elem T rfl rfl rfl rfl (by conv => lhs; whnf) rfl (by repeat first | exact At.head _ _ | apply At.tail) (by omega) ?_
    refine RL.step (Gd.none rfl) rfl rfl ?_
    refine NV.pure T (by conv => lhs; whnf; arg 1; whnf) ?_
    refine RL.nil _ _ _ _ ?_
    refine hK5 _ _ _ ?_
    refine SW.seq_k ?_
    intro K6 hK6
    refine SW.region _ _ _ _ ?_
    refine RL.step (Gd.none rfl) rfl rfl ?_
    refine NV.pure T (by conv => lhs; whnf; arg 1; whnf) ?_
    refine RL.step (Gd.none rfl) rfl rfl ?_
    refine NV.convI T rfl rfl rfl rfl (by exact (by omega : (-9223372036854775808 : Int) ≤ at_)) (by exact (by omega : at_ ≤ 9223372036854775807)) ?_
    refine RL.step (Gd.none rfl) rfl rfl ?_
    refine NV.pure T (by conv => lhs; whnf; arg 1; whnf) ?_
    refine RL.step (Gd.none rfl) rfl rfl ?_
    refine NV.pure T (by conv => lhs; whnf; arg 1; whnf) ?_
    refine RL.step (Gd.none rfl) rfl rfl ?_
    first
      | refine NV.arith rfl rfl rfl rfl (by omega) (by omega) ?_
      | refine NV.pure T (by conv => lhs; whnf; arg 1; whnf) ?_
    refine RL.step (Gd.none rfl) rfl rfl ?_
    refine NV.rem rfl rfl rfl (by omega) hk ?_
    refine RL.step (Gd.none rfl) rfl rfl ?_
    refine NV.pure T (by conv => lhs; whnf; arg 1; whnf) ?_
    refine RL.nil _ _ _ _ ?_
    refine hK6 _ _ _ ?_
    refine SW.seq_k ?_
    intro K7 hK7
    refine SW.draw [(32, 0), (33, 1), (34, 2), (35, 3), (36, 4), (31, 5), (37, 6), (38, 7), (10, 8), (11, 10)] [[], [], [], [1, 2], [0, 3, 1, 2], [4, 0, 3, 1, 2], [5, 4, 0, 3, 1, 2], [5, 4, 0, 3, 1, 2], [], [8, 6, 5, 4, 0, 3, 1, 2], [7, 5, 4, 0, 3, 1, 2, 9, 8, 6]] mixed (by kernel_rfl) (by kernel_rfl) ?_
    refine RD.q rfl rfl (Gd.none rfl) (by first | exact QV.load_var1 T rfl rfl rfl rfl (by repeat first | exact At.head _ _ | apply At.tail) rfl | exact QV.load_varN T rfl rfl rfl rfl rfl (by repeat first | exact At.head _ _ | apply At.tail) (by exact (rfl : _ = [_, _, _])) rfl | exact QV.load_elem T rfl rfl rfl rfl (by assumption) (by first | exact map_get _ _ (by omega) | assumption)) ?_
    refine RD.q rfl rfl (Gd.none rfl) (pev_sound T (by conv => lhs; whnf; arg 1; whnf)) ?_
    refine RD.q rfl rfl (Gd.none rfl) (pev_sound T (by conv => lhs; whnf; arg 1; whnf)) ?_
    refine RD.q rfl rfl (Gd.none rfl) (by first | exact QV.slice (l := 0) (h := k) T rfl rfl rfl rfl rfl ⟨_, rfl⟩ (by omega) (by omega) | exact QV.slice (l := k) (h := n) T rfl rfl rfl rfl ⟨_, rfl⟩ rfl (by omega) (by omega)) ?_
    apply RD.share
    · intro hsh0
      refine RD.many rfl rfl (.cons ?_ (.cons ?_ .nil))
      · skip
        refine RD1.nv rfl (Gd.none rfl) ?_
        refine NV.call rfl rfl rfl fun15 rfl rfl (aft_no a b _ _ _ (es.take k) (sub_lo (hR _) hkn) (by simp; omega) (by omega) ha ha2 hb hb2 hx) ?_
        rintro _ _ ⟨rfl, rfl⟩
        refine ⟨Stab.nil, ?_⟩
        refine RD.q rfl rfl (Gd.none rfl) (pev_sound T (by conv => lhs; whnf; arg 1; whnf)) ?_
        refine RD.q rfl rfl (Gd.none rfl) (pev_sound T (by conv => lhs; whnf; arg 1; whnf)) ?_
        refine RD.q rfl rfl (Gd.none rfl) (pev_sound T (by conv => lhs; whnf; arg 1; whnf)) ?_
        refine RD.nv rfl rfl rfl (Gd.none rfl) ?_
        refine NV.alloc T rfl rfl rfl (by exact (rfl : _ = [_, _, _])) ?_
        intro b10_2
        refine ⟨(Stab.cons rfl (Gd.none rfl) (pev_sound T rfl) (Stab.cons rfl (Gd.none rfl) (pev_sound T rfl) (Stab.cons rfl (Gd.none rfl) (pev_sound T rfl) (Stab.cons rfl (Gd.none rfl) (by first | exact QV.slice (l := 0) (h := k) T rfl rfl rfl rfl rfl ⟨_, rfl⟩ (by omega) (by omega) | exact QV.slice (l := k) (h := n) T rfl rfl rfl rfl ⟨_, rfl⟩ rfl (by omega) (by omega)) (Stab.cons rfl (Gd.none rfl) (pev_sound T rfl) (Stab.cons rfl (Gd.none rfl) (pev_sound T rfl) (Stab.cons rfl (Gd.none rfl) (by first | exact QV.load_var1 T rfl rfl rfl rfl (by repeat first | exact At.head _ _ | apply At.tail) rfl | exact QV.load_varN T rfl rfl rfl rfl rfl (by repeat first | exact At.head _ _ | apply At.tail) rfl rfl | exact QV.load_elem T rfl rfl rfl rfl (by assumption) (by first | exact map_get _ _ (by omega) | assumption)) Stab.nil))))))), ?_⟩
        refine RD.nv rfl rfl rfl (Gd.none rfl) ?_
        first
          | refine NV.store_var1 T rfl rfl rfl rfl (by conv => lhs; whnf) rfl (by repeat first | exact At.head _ _ | apply At.tail) rfl (by exact (rfl : _ = [_, _, _])) ?_
          | refine NV.store_var T rfl rfl rfl (by exact (rfl : _ = [_, _, _])) rfl rfl (by repeat first | exact At.head _ _ | apply At.tail) (Nat.le_of_ble_eq_true rfl) (by exact (rfl : _ = [_, _, _])) ?_
          | refine NV.store_elem T rfl rfl rfl rfl (by conv => lhs; whnf) rfl (by repeat first | exact At.head _ _ | apply At.tail) (by omega) ?_
        refine ⟨(Stab.cons rfl (Gd.none rfl) (pev_sound T rfl) Stab.nil), ?_⟩
        refine RD.q rfl rfl (Gd.none rfl) (pev_sound T (by conv => lhs; whnf; arg 1; whnf)) ?_
        refine RD.k rfl rfl ?_
        exact hsh0 b10_2
      · skip
        refine RD1.nv rfl (Gd.none rfl) ?_
        refine NV.alloc T rfl rfl rfl (by exact (rfl : _ = [_, _, _])) ?_
        intro b10_2
        refine ⟨(Stab.cons rfl (Gd.none rfl) (by first | exact QV.slice (l := 0) (h := k) T rfl rfl rfl rfl rfl ⟨_, rfl⟩ (by omega) (by omega) | exact QV.slice (l := k) (h := n) T rfl rfl rfl rfl ⟨_, rfl⟩ rfl (by omega) (by omega)) (Stab.cons rfl (Gd.none rfl) (pev_sound T rfl) (Stab.cons rfl (Gd.none rfl) (pev_sound T rfl) (Stab.cons rfl (Gd.none rfl) (by first | exact QV.load_var1 T rfl rfl rfl rfl (by repeat first | exact At.head _ _ | apply At.tail) rfl | exact QV.load_varN T rfl rfl rfl rfl rfl (by repeat first | exact At.head _ _ | apply At.tail) rfl rfl | exact QV.load_elem T rfl rfl rfl rfl (by assumption) (by first | exact map_get _ _ (by omega) | assumption)) Stab.nil)))), ?_⟩
        refine RD.nv rfl rfl rfl (Gd.none rfl) ?_
        refine NV.call rfl rfl rfl fun15 rfl rfl (aft_no a b _ _ _ (es.take k) (sub_lo (hR _) hkn) (by simp; omega) (by omega) ha ha2 hb hb2 hx) ?_
        rintro _ _ ⟨rfl, rfl⟩
        refine ⟨Stab.nil, ?_⟩
        refine RD.q rfl rfl (Gd.none rfl) (pev_sound T (by conv => lhs; whnf; arg 1; whnf)) ?_
        refine RD.q rfl rfl (Gd.none rfl) (pev_sound T (by conv => lhs; whnf; arg 1; whnf)) ?_
        refine RD.q rfl rfl (Gd.none rfl) (pev_sound T (by conv => lhs; whnf; arg 1; whnf)) ?_
        refine RD.nv rfl rfl rfl (Gd.none rfl) ?_
        first
          | refine NV.store_var1 T rfl rfl rfl rfl (by conv => lhs; whnf) rfl (by repeat first | exact At.head _ _ | apply At.tail) rfl (by exact (rfl : _ = [_, _, _])) ?_
          | refine NV.store_var T rfl rfl rfl (by exact (rfl : _ = [_, _, _])) rfl rfl (by repeat first | exact At.head _ _ | apply At.tail) (Nat.le_of_ble_eq_true rfl) (by exact (rfl : _ = [_, _, _])) ?_
          | refine NV.store_elem T rfl rfl rfl rfl (by conv => lhs; whnf) rfl (by repeat first | exact At.head _ _ | apply At.tail) (by omega) ?_
        refine ⟨(Stab.cons rfl (Gd.none rfl) (pev_sound T rfl) Stab.nil), ?_⟩
        refine RD.q rfl rfl (Gd.none rfl) (pev_sound T (by conv => lhs; whnf; arg 1; whnf)) ?_
        refine RD.k rfl rfl ?_
        exact hsh0 b10_2
    · intro b10_2
      refine hK7 _ _ _ ?_
      refine SW.seq_k ?_
      intro K8 hK8
      refine SW.seq_k ?_
      intro K9 hK9
      refine SW.region _ _ _ _ ?_
      refine RL.step (Gd.none rfl) rfl rfl ?_
      refine NV.pure T (by conv => lhs; whnf; arg 1; whnf) ?_
      refine RL.step (Gd.none rfl) rfl rfl ?_
      refine NV.pure T (by conv => lhs; whnf; arg 1; whnf) ?_
      refine RL.nil _ _ _ _ ?_
      refine hK9 _ _ _ ?_
      refine SW.cond_t rfl ?_
      refine SW.seq_k ?_
      intro K10 hK10
      refine SW.region _ _ _ _ ?_
      refine RL.step (Gd.none rfl) rfl rfl ?_
      refine NV.pure T (by conv => lhs; whnf; arg 1; whnf) ?_
      refine RL.step (Gd.none rfl) rfl rfl ?_
      refine NV.pure T (by conv => lhs; whnf; arg 1; whnf) ?_
      refine RL.step (Gd.none rfl) rfl rfl ?_
      first
        | refine NV.pure T (by conv => lhs; whnf; arg 1; whnf) ?_
        | refine NV.eqd T PL rfl rfl rfl Try.eqGuardType26 rfl ?_
      refine RL.step (Gd.none rfl) rfl rfl ?_
      refine NV.pure T (by conv => lhs; whnf; arg 1; whnf) ?_
      refine RL.nil _ _ _ _ ?_
      refine hK10 _ _ _ ?_
      refine SW.ret ?_
      refine retQ.ret (H' := H) (RVs.tmp (by conv => lhs; whnf) RVs.nil) (fun w hw => Sat.sub (by repeat first | exact List.Sublist.refl _ | apply List.Sublist.cons_cons | apply List.Sublist.cons) hw) ?_
      clear hK10 K10 hK9 K9 hK8 K8 hK7 K7 hK6 K6 hK5 K5 hK4 K4 hK3 K3 hK2 K2 hK1 K1 hK0 K0
      first | exact ⟨rfl, rfl⟩ | (refine ⟨bool1 ?_, rfl⟩; simp)
theorem parts_sn {w0 : World} {H : List Chunk} (a b : Int) (ha : 0 ≤ a) (ha2 : a ≤ 263) (hb : 0 ≤ b) (hb2 : b ≤ 255)(sa : Option Addr) (n c : Nat) (at_ : Int) (k : Nat) (es : List Int) (hR : ∀ H, Rd w0 H sa n c 1 (es.map (.int .i64))) (hn : n = es.length) (hcap : n ≤ c) (h0 : 0 ≤ at_) (h1 : at_ ≤ 65535) (hk : at_.tmod ((n : Int) + 1) = k) (hkn : k ≤ n) (hs : n ≤ 5000) (x y : Int) (x1 : 0 ≤ x) (x2 : x ≤ 263) (y1 : 0 ≤ y) (y2 : y ≤ 255) (hx : aft a b (es.take k) = some (x, y)) (hy : aft x y (es.drop k) = none) : SC Try.prog w0 5 #[sv a b, .slice sa n c, .int .u16 at_] H (fun v H' => v = .bool true ∧ H' = H) := by
  refine SC.enter Try.func5 rfl (Nat.le_of_ble_eq_true rfl) ?_
  refine SW.seq_k ?_
  intro K0 hK0
  refine SW.region _ _ _ _ ?_
  refine RL.step (Gd.none rfl) rfl rfl ?_
  refine NV.box rfl (by exact (rfl : _ = [_, _, _])) ?_
  intro b3_0
  refine RL.step (Gd.none rfl) rfl rfl ?_
  refine NV.pure T (by conv => lhs; whnf; arg 1; whnf) ?_
  refine RL.nil _ _ _ _ ?_
  refine hK0 _ _ _ ?_
  refine SW.seq_k ?_
  intro K1 hK1
  refine SW.seq_k ?_
  intro K2 hK2
  refine SW.region _ _ _ _ ?_
  refine RL.step (Gd.none rfl) rfl rfl ?_
  refine NV.call rfl rfl rfl fun8 rfl rfl (alive) ?_
  rintro _ _ ⟨rfl, rfl⟩
  refine RL.step (Gd.none rfl) rfl rfl ?_
  refine NV.pure T (by conv => lhs; whnf; arg 1; whnf) ?_
  refine RL.nil _ _ _ _ ?_
  refine hK2 _ _ _ ?_
  refine SW.cond_f rfl ?_
  refine SW.skip ?_
  refine hK1 _ _ _ ?_
  refine SW.seq_k ?_
  intro K3 hK3
  refine SW.seq_k ?_
  intro K4 hK4
  refine SW.region _ _ _ _ ?_
  refine RL.step (Gd.none rfl) rfl rfl ?_
  refine NV.pure T (by conv => lhs; whnf; arg 1; whnf) ?_
  refine RL.step (Gd.none rfl) rfl rfl ?_
  refine NV.pure T (by conv => lhs; whnf; arg 1; whnf) ?_
  refine RL.step (Gd.none rfl) rfl rfl ?_
  refine NV.pure T (by conv => lhs; whnf; arg 1; whnf) ?_
  refine RL.nil _ _ _ _ ?_
  refine hK4 _ _ _ ?_
  refine SW.cond rfl (fun hc1 => ?_) (fun hc1 => ?_)
  · try simp only [decide_eq_true_eq, decide_eq_false_iff_not, Bool.not_eq_true', Bool.not_eq_false', Int.not_lt, Int.not_le] at hc1
    exfalso; first | omega | (simp at hs0; done)
  · try simp only [decide_eq_true_eq, decide_eq_false_iff_not, Bool.not_eq_true', Bool.not_eq_false', Int.not_lt, Int.not_le] at hc1
    refine SW.skip ?_
    refine hK3 _ _ _ ?_
    refine SW.seq_k ?_
    intro K5 hK5
    refine SW.region _ _ _ _ ?_
    refine RL.step (Gd.none rfl) rfl rfl ?_
    first
      | refine NV.load_var1 T rfl rfl rfl rfl (by repeat first | exact At.head _ _ | apply At.tail) rfl ?_
      | refine NV.load_varN T rfl rfl rfl rfl rfl (by repeat first | exact At.head _ _ | apply At.tail) (by exact (rfl : _ = [_, _, _])) rfl ?_
      | refine NV.load_elem T rfl rfl rfl rfl (by assumption) (by first | exact map_get _ _ (by omega) | assumption) ?_
    refine RL.step (Gd.none rfl) rfl rfl ?_
    refine NV.pure T (by conv => lhs; whnf; arg 1; whnf) ?_
    refine RL.step (Gd.none rfl) rfl rfl ?_
    refine NV.call rfl rfl rfl fun15 rfl rfl (aft_no a b sa n c es (hR _) hn (by omega) ha ha2 hb hb2 ((aft_split hx).trans hy)) ?_
    rintro _ _ ⟨rfl, rfl⟩
    refine RL.step (Gd.none rfl) rfl rfl ?_
    refine NV.pure T (by conv => lhs; whnf; arg 1; whnf) ?_
    refine RL.step (Gd.none rfl) rfl rfl ?_
    refine NV.pure T (by conv => lhs; whnf; arg 1; whnf) ?_
    refine RL.step (Gd.none rfl) rfl rfl ?_
    refine NV.pure T (by conv => lhs; whnf; arg 1; whnf) ?_
    refine RL.step (Gd.none rfl) rfl rfl ?_
    refine NV.alloc T rfl rfl rfl (by exact (rfl : _ = [_, _, _])) ?_
    intro b7_1
    refine RL.step (Gd.none rfl) rfl rfl ?_
    first
      | refine NV.store_var1 T rfl rfl rfl rfl (by conv => lhs; whnf) rfl (by repeat first | exact At.head _ _ | apply At.tail) rfl (by exact (rfl : _ = [_, _, _])) ?_
      | refine NV.store_var T rfl rfl rfl (by exact (rfl : _ = [_, _, _])) rfl rfl (by repeat first | exact At.head _ _ | apply At.tail) (Nat.le_of_ble_eq_true rfl) (by exact (rfl : _ = [_, _, _])) ?_
      | refine NV.store_elem T rfl rfl rfl rfl (by conv => lhs; whnf) rfl (by repeat first | exact At.head _ _ | apply At.tail) (by omega) ?_
    refine RL.step (Gd.none rfl) rfl rfl ?_
    refine NV.pure T (by conv => lhs; whnf; arg 1; whnf) ?_
    refine RL.nil _ _ _ _ ?_
    refine hK5 _ _ _ ?_
    refine SW.seq_k ?_
    intro K6 hK6
    refine SW.region _ _ _ _ ?_
    refine RL.step (Gd.none rfl) rfl rfl ?_
    refine NV.pure T (by conv => lhs; whnf; arg 1; whnf) ?_
    refine RL.step (Gd.none rfl) rfl rfl ?_
    refine NV.convI T rfl rfl rfl rfl (by exact (by omega : (-9223372036854775808 : Int) ≤ at_)) (by exact (by omega : at_ ≤ 9223372036854775807)) ?_
    refine RL.step (Gd.none rfl) rfl rfl ?_
    refine NV.pure T (by conv => lhs; whnf; arg 1; whnf) ?_
    refine RL.step (Gd.none rfl) rfl rfl ?_
    refine NV.pure T (by conv => lhs; whnf; arg 1; whnf) ?_
    refine RL.step (Gd.none rfl) rfl rfl ?_
    first
      | refine NV.arith rfl rfl rfl rfl (by omega) (by omega) ?_
      | refine NV.pure T (by conv => lhs; whnf; arg 1; whnf) ?_
    refine RL.step (Gd.none rfl) rfl rfl ?_
    refine NV.rem rfl rfl rfl (by omega) hk ?_
    refine RL.step (Gd.none rfl) rfl rfl ?_
    refine NV.pure T (by conv => lhs; whnf; arg 1; whnf) ?_
    refine RL.nil _ _ _ _ ?_
    refine hK6 _ _ _ ?_
    refine SW.seq_k ?_
    intro K7 hK7
    refine SW.draw [(32, 0), (33, 1), (34, 2), (35, 3), (36, 4), (31, 5), (37, 6), (38, 7), (10, 8), (11, 10)] [[], [], [], [1, 2], [0, 3, 1, 2], [4, 0, 3, 1, 2], [5, 4, 0, 3, 1, 2], [5, 4, 0, 3, 1, 2], [], [8, 6, 5, 4, 0, 3, 1, 2], [7, 5, 4, 0, 3, 1, 2, 9, 8, 6]] mixed (by kernel_rfl) (by kernel_rfl) ?_
    refine RD.q rfl rfl (Gd.none rfl) (by first | exact QV.load_var1 T rfl rfl rfl rfl (by repeat first | exact At.head _ _ | apply At.tail) rfl | exact QV.load_varN T rfl rfl rfl rfl rfl (by repeat first | exact At.head _ _ | apply At.tail) (by exact (rfl : _ = [_, _, _])) rfl | exact QV.load_elem T rfl rfl rfl rfl (by assumption) (by first | exact map_get _ _ (by omega) | assumption)) ?_
    refine RD.q rfl rfl (Gd.none rfl) (pev_sound T (by conv => lhs; whnf; arg 1; whnf)) ?_
    refine RD.q rfl rfl (Gd.none rfl) (pev_sound T (by conv => lhs; whnf; arg 1; whnf)) ?_
    refine RD.q rfl rfl (Gd.none rfl) (by first | exact QV.slice (l := 0) (h := k) T rfl rfl rfl rfl rfl ⟨_, rfl⟩ (by omega) (by omega) | exact QV.slice (l := k) (h := n) T rfl rfl rfl rfl ⟨_, rfl⟩ rfl (by omega) (by omega)) ?_
    apply RD.share
    · intro hsh0
      refine RD.many rfl rfl (.cons ?_ (.cons ?_ .nil))
      · skip
        refine RD1.nv rfl (Gd.none rfl) ?_
        refine NV.call rfl rfl rfl fun15 rfl rfl (aft_some a b x y _ _ _ (es.take k) (sub_lo (hR _) hkn) (by simp; omega) (by omega) ha ha2 hb hb2 hx) ?_
        rintro _ _ ⟨rfl, rfl⟩
        refine ⟨Stab.nil, ?_⟩
        refine RD.q rfl rfl (Gd.none rfl) (pev_sound T (by conv => lhs; whnf; arg 1; whnf)) ?_
        refine RD.q rfl rfl (Gd.none rfl) (pev_sound T (by conv => lhs; whnf; arg 1; whnf)) ?_
        refine RD.q rfl rfl (Gd.none rfl) (pev_sound T (by conv => lhs; whnf; arg 1; whnf)) ?_
        refine RD.nv rfl rfl rfl (Gd.none rfl) ?_
        refine NV.alloc T rfl rfl rfl (by exact (rfl : _ = [_, _, _])) ?_
        intro b10_2
        refine ⟨(Stab.cons rfl (Gd.none rfl) (pev_sound T rfl) (Stab.cons rfl (Gd.none rfl) (pev_sound T rfl) (Stab.cons rfl (Gd.none rfl) (pev_sound T rfl) (Stab.cons rfl (Gd.none rfl) (by first | exact QV.slice (l := 0) (h := k) T rfl rfl rfl rfl rfl ⟨_, rfl⟩ (by omega) (by omega) | exact QV.slice (l := k) (h := n) T rfl rfl rfl rfl ⟨_, rfl⟩ rfl (by omega) (by omega)) (Stab.cons rfl (Gd.none rfl) (pev_sound T rfl) (Stab.cons rfl (Gd.none rfl) (pev_sound T rfl) (Stab.cons rfl (Gd.none rfl) (by first | exact QV.load_var1 T rfl rfl rfl rfl (by repeat first | exact At.head _ _ | apply At.tail) rfl | exact QV.load_varN T rfl rfl rfl rfl rfl (by repeat first | exact At.head _ _ | apply At.tail) rfl rfl | exact QV.load_elem T rfl rfl rfl rfl (by assumption) (by first | exact map_get _ _ (by omega) | assumption)) Stab.nil))))))), ?_⟩
        refine RD.nv rfl rfl rfl (Gd.none rfl) ?_
        first
          | refine NV.store_var1 T rfl rfl rfl rfl (by conv => lhs; whnf) rfl (by repeat first | exact At.head _ _ | apply At.tail) rfl (by exact (rfl : _ = [_, _, _])) ?_
          | refine NV.store_var T rfl rfl rfl (by exact (rfl : _ = [_, _, _])) rfl rfl (by repeat first | exact At.head _ _ | apply At.tail) (Nat.le_of_ble_eq_true rfl) (by exact (rfl : _ = [_, _, _])) ?_
          | refine NV.store_elem T rfl rfl rfl rfl (by conv => lhs; whnf) rfl (by repeat first | exact At.head _ _ | apply At.tail) (by omega) ?_
        refine ⟨(Stab.cons rfl (Gd.none rfl) (pev_sound T rfl) Stab.nil), ?_⟩
        refine RD.q rfl rfl (Gd.none rfl) (pev_sound T (by conv => lhs; whnf; arg 1; whnf)) ?_
        refine RD.k rfl rfl ?_
        exact hsh0 b10_2
      · skip
        refine RD1.nv rfl (Gd.none rfl) ?_
        refine NV.alloc T rfl rfl rfl (by exact (rfl : _ = [_, _, _])) ?_
        intro b10_2
        refine ⟨(Stab.cons rfl (Gd.none rfl) (by first | exact QV.slice (l := 0) (h := k) T rfl rfl rfl rfl rfl ⟨_, rfl⟩ (by omega) (by omega) | exact QV.slice (l := k) (h := n) T rfl rfl rfl rfl ⟨_, rfl⟩ rfl (by omega) (by omega)) (Stab.cons rfl (Gd.none rfl) (pev_sound T rfl) (Stab.cons rfl (Gd.none rfl) (pev_sound T rfl) (Stab.cons rfl (Gd.none rfl) (by first | exact QV.load_var1 T rfl rfl rfl rfl (by repeat first | exact At.head _ _ | apply At.tail) rfl | exact QV.load_varN T rfl rfl rfl rfl rfl (by repeat first | exact At.head _ _ | apply At.tail) rfl rfl | exact QV.load_elem T rfl rfl rfl rfl (by assumption) (by first | exact map_get _ _ (by omega) | assumption)) Stab.nil)))), ?_⟩
        refine RD.nv rfl rfl rfl (Gd.none rfl) ?_
        refine NV.call rfl rfl rfl fun15 rfl rfl (aft_some a b x y _ _ _ (es.take k) (sub_lo (hR _) hkn) (by simp; omega) (by omega) ha ha2 hb hb2 hx) ?_
        rintro _ _ ⟨rfl, rfl⟩
        refine ⟨Stab.nil, ?_⟩
        refine RD.q rfl rfl (Gd.none rfl) (pev_sound T (by conv => lhs; whnf; arg 1; whnf)) ?_
        refine RD.q rfl rfl (Gd.none rfl) (pev_sound T (by conv => lhs; whnf; arg 1; whnf)) ?_
        refine RD.q rfl rfl (Gd.none rfl) (pev_sound T (by conv => lhs; whnf; arg 1; whnf)) ?_
        refine RD.nv rfl rfl rfl (Gd.none rfl) ?_
        first
          | refine NV.store_var1 T rfl rfl rfl rfl (by conv => lhs; whnf) rfl (by repeat first | exact At.head _ _ | apply At.tail) rfl (by exact (rfl : _ = [_, _, _])) ?_
          | refine NV.store_var T rfl rfl rfl (by exact (rfl : _ = [_, _, _])) rfl rfl (by repeat first | exact At.head _ _ | apply At.tail) (Nat.le_of_ble_eq_true rfl) (by exact (rfl : _ = [_, _, _])) ?_
          | refine NV.store_elem T rfl rfl rfl rfl (by conv => lhs; whnf) rfl (by repeat first | exact At.head _ _ | apply At.tail) (by omega) ?_
        refine ⟨(Stab.cons rfl (Gd.none rfl) (pev_sound T rfl) Stab.nil), ?_⟩
        refine RD.q rfl rfl (Gd.none rfl) (pev_sound T (by conv => lhs; whnf; arg 1; whnf)) ?_
        refine RD.k rfl rfl ?_
        exact hsh0 b10_2
    · intro b10_2
      refine hK7 _ _ _ ?_
      refine SW.seq_k ?_
      intro K8 hK8
      refine SW.seq_k ?_
      intro K9 hK9
      refine SW.region _ _ _ _ ?_
      refine RL.step (Gd.none rfl) rfl rfl ?_
      refine NV.pure T (by conv => lhs; whnf; arg 1; whnf) ?_
      refine RL.step (Gd.none rfl) rfl rfl ?_
      refine NV.pure T (by conv => lhs; whnf; arg 1; whnf) ?_
      refine RL.nil _ _ _ _ ?_
      refine hK9 _ _ _ ?_
      refine SW.cond_f rfl ?_
      refine SW.skip ?_
      refine hK8 _ _ _ ?_
      refine SW.seq_k ?_
      intro K10 hK10
      refine SW.draw [(45, 0), (46, 1), (47, 2), (48, 3), (49, 4), (44, 5), (50, 6), (51, 7), (12, 8), (13, 10)] [[], [], [], [1, 2], [0, 3, 1, 2], [4, 0, 3, 1, 2], [5, 4, 0, 3, 1, 2], [5, 4, 0, 3, 1, 2], [], [8, 6, 5, 4, 0, 3, 1, 2], [7, 5, 4, 0, 3, 1, 2, 9, 8, 6]] mixed (by kernel_rfl) (by kernel_rfl) ?_
      refine RD.q rfl rfl (Gd.none rfl) (by first | exact QV.load_var1 T rfl rfl rfl rfl (by repeat first | exact At.head _ _ | apply At.tail) rfl | exact QV.load_varN T rfl rfl rfl rfl rfl (by repeat first | exact At.head _ _ | apply At.tail) (by exact (rfl : _ = [_, _, _])) rfl | exact QV.load_elem T rfl rfl rfl rfl (by assumption) (by first | exact map_get _ _ (by omega) | assumption)) ?_
      refine RD.q rfl rfl (Gd.none rfl) (pev_sound T (by conv => lhs; whnf; arg 1; whnf)) ?_
      refine RD.q rfl rfl (Gd.none rfl) (pev_sound T (by conv => lhs; whnf; arg 1; whnf)) ?_
      refine RD.q rfl rfl (Gd.none rfl) (by first | exact QV.slice (l := 0) (h := k) T rfl rfl rfl rfl rfl ⟨_, rfl⟩ (by omega) (by omega) | exact QV.slice (l := k) (h := n) T rfl rfl rfl rfl ⟨_, rfl⟩ rfl (by omega) (by omega)) ?_
      apply RD.share
      · intro hsh1
        refine RD.many rfl rfl (.cons ?_ (.cons ?_ .nil))
        · skip
          refine RD1.nv rfl (Gd.none rfl) ?_
          refine NV.call rfl rfl rfl fun15 rfl rfl (aft_no x y _ _ _ (es.drop k) (sub_hi (hR _) hn hkn) (by simp; omega) (by omega) x1 x2 y1 y2 hy) ?_
          rintro _ _ ⟨rfl, rfl⟩
          refine ⟨Stab.nil, ?_⟩
          refine RD.q rfl rfl (Gd.none rfl) (pev_sound T (by conv => lhs; whnf; arg 1; whnf)) ?_
          refine RD.q rfl rfl (Gd.none rfl) (pev_sound T (by conv => lhs; whnf; arg 1; whnf)) ?_
          refine RD.q rfl rfl (Gd.none rfl) (pev_sound T (by conv => lhs; whnf; arg 1; whnf)) ?_
          refine RD.nv rfl rfl rfl (Gd.none rfl) ?_
          refine NV.alloc T rfl rfl rfl (by exact (rfl : _ = [_, _, _])) ?_
          intro b12_3
          refine ⟨(Stab.cons rfl (Gd.none rfl) (pev_sound T rfl) (Stab.cons rfl (Gd.none rfl) (pev_sound T rfl) (Stab.cons rfl (Gd.none rfl) (pev_sound T rfl) (Stab.cons rfl (Gd.none rfl) (by first | exact QV.slice (l := 0) (h := k) T rfl rfl rfl rfl rfl ⟨_, rfl⟩ (by omega) (by omega) | exact QV.slice (l := k) (h := n) T rfl rfl rfl rfl ⟨_, rfl⟩ rfl (by omega) (by omega)) (Stab.cons rfl (Gd.none rfl) (pev_sound T rfl) (Stab.cons rfl (Gd.none rfl) (pev_sound T rfl) (Stab.cons rfl (Gd.none rfl) (by first | exact QV.load_var1 T rfl rfl rfl rfl (by repeat first | exact At.head _ _ | apply At.tail) rfl | exact QV.load_varN T rfl rfl rfl rfl rfl (by repeat first | exact At.head _ _ | apply At.tail) rfl rfl | exact QV.load_elem T rfl rfl rfl rfl (by assumption) (by first | exact map_get _ _ (by omega) | assumption)) Stab.nil))))))), ?_⟩
          refine RD.nv rfl rfl rfl (Gd.none rfl) ?_
          first
            | refine NV.store_var1 T rfl rfl rfl rfl (by conv => lhs; whnf) rfl (by repeat first | exact At.head _ _ | apply At.tail) rfl (by exact (rfl : _ = [_, _, _])) ?_
            | refine NV.store_var T rfl rfl rfl (by exact (rfl : _ = [_, _, _])) rfl rfl (by repeat first | exact At.head _ _ | apply At.tail) (Nat.le_of_ble_eq_true rfl) (by exact (rfl : _ = [_, _, _])) ?_
            | refine NV.store_elem T rfl rfl rfl rfl (by conv => lhs; whnf) rfl (by repeat first | exact At.head _ _ | apply At.tail) (by omega) ?_
          refine ⟨(Stab.cons rfl (Gd.none rfl) (pev_sound T rfl) Stab.nil), ?_⟩
          refine RD.q rfl rfl (Gd.none rfl) (pev_sound T (by conv => lhs; whnf; arg 1; whnf)) ?_
          refine RD.k rfl rfl ?_
          exact hsh1 b12_3
        · skip
          refine RD1.nv rfl (Gd.none rfl) ?_
          refine NV.alloc T rfl rfl rfl (by exact (rfl : _ = [_, _, _])) ?_
          intro b12_3
          refine ⟨(Stab.cons rfl (Gd.none rfl) (by first | exact QV.slice (l := 0) (h := k) T rfl rfl rfl rfl rfl ⟨_, rfl⟩ (by omega) (by omega) | exact QV.slice (l := k) (h := n) T rfl rfl rfl rfl ⟨_, rfl⟩ rfl (by omega) (by omega)) (Stab.cons rfl (Gd.none rfl) (pev_sound T rfl) (Stab.cons rfl (Gd.none rfl) (pev_sound T rfl) (Stab.cons rfl (Gd.none rfl) (by first | exact QV.load_var1 T rfl rfl rfl rfl (by repeat first | exact At.head _ _ | apply At.tail) rfl | exact QV.load_varN T rfl rfl rfl rfl rfl (by repeat first | exact At.head _ _ | apply At.tail) rfl rfl | exact QV.load_elem T rfl rfl rfl rfl (by assumption) (by first | exact map_get _ _ (by omega) | assumption)) Stab.nil)))), ?_⟩
          refine RD.nv rfl rfl rfl (Gd.none rfl) ?_
          refine NV.call rfl rfl rfl fun15 rfl rfl (aft_no x y _ _ _ (es.drop k) (sub_hi (hR _) hn hkn) (by simp; omega) (by omega) x1 x2 y1 y2 hy) ?_
          rintro _ _ ⟨rfl, rfl⟩
          refine ⟨Stab.nil, ?_⟩
          refine RD.q rfl rfl (Gd.none rfl) (pev_sound T (by conv => lhs; whnf; arg 1; whnf)) ?_
          refine RD.q rfl rfl (Gd.none rfl) (pev_sound T (by conv => lhs; whnf; arg 1; whnf)) ?_
          refine RD.q rfl rfl (Gd.none rfl) (pev_sound T (by conv => lhs; whnf; arg 1; whnf)) ?_
          refine RD.nv rfl rfl rfl (Gd.none rfl) ?_
          first
            | refine NV.store_var1 T rfl rfl rfl rfl (by conv => lhs; whnf) rfl (by repeat first | exact At.head _ _ | apply At.tail) rfl (by exact (rfl : _ = [_, _, _])) ?_
            | refine NV.store_var T rfl rfl rfl (by exact (rfl : _ = [_, _, _])) rfl rfl (by repeat first | exact At.head _ _ | apply At.tail) (Nat.le_of_ble_eq_true rfl) (by exact (rfl : _ = [_, _, _])) ?_
            | refine NV.store_elem T rfl rfl rfl rfl (by conv => lhs; whnf) rfl (by repeat first | exact At.head _ _ | apply At.tail) (by omega) ?_
          refine ⟨(Stab.cons rfl (Gd.none rfl) (pev_sound T rfl) Stab.nil), ?_⟩
          refine RD.q rfl rfl (Gd.none rfl) (pev_sound T (by conv => lhs; whnf; arg 1; whnf)) ?_
          refine RD.k rfl rfl ?_
          exact hsh1 b12_3
      · intro b12_3
        refine hK10 _ _ _ ?_
        refine SW.seq_k ?_
        intro K11 hK11
        refine SW.region _ _ _ _ ?_
        refine RL.step (Gd.none rfl) rfl rfl ?_
        first
          | refine NV.load_var1 T rfl rfl rfl rfl (by repeat first | exact At.head _ _ | apply At.tail) rfl ?_
          | refine NV.load_varN T rfl rfl rfl rfl rfl (by repeat first | exact At.head _ _ | apply At.tail) (by exact (rfl : _ = [_, _, _])) rfl ?_
          | refine NV.load_elem T rfl rfl rfl rfl (by assumption) (by first | exact map_get _ _ (by omega) | assumption) ?_
        refine RL.step (Gd.none rfl) rfl rfl ?_
        first
          | refine NV.load_var1 T rfl rfl rfl rfl (by repeat first | exact At.head _ _ | apply At.tail) rfl ?_
          | refine NV.load_varN T rfl rfl rfl rfl rfl (by repeat first | exact At.head _ _ | apply At.tail) (by exact (rfl : _ = [_, _, _])) rfl ?_
          | refine NV.load_elem T rfl rfl rfl rfl (by assumption) (by first | exact map_get _ _ (by omega) | assumption) ?_
        refine RL.step (Gd.none rfl) rfl rfl ?_
        first
          | refine NV.pure T (by conv => lhs; whnf; arg 1; whnf) ?_
          | refine NV.eqd T PL rfl rfl rfl Try.eqGuardType25 rfl ?_
        refine RL.step (Gd.none rfl) rfl rfl ?_
        refine NV.pure T (by conv => lhs; whnf; arg 1; whnf) ?_
        refine RL.split 55 rfl (fun hs0 => ?_) (fun hs0 => ?_)
        · try simp only [decide_eq_true_eq, decide_eq_false_iff_not, Bool.not_eq_true', Bool.not_eq_false', Int.not_lt, Int.not_le] at hs0
          refine RL.step (Gd.yes rfl rfl) rfl rfl ?_
          refine NV.pure T (by conv => lhs; whnf; arg 1; whnf) ?_
          refine RL.step (Gd.yes rfl rfl) rfl rfl ?_
          refine NV.pure T (by conv => lhs; whnf; arg 1; whnf) ?_
          refine RL.step (Gd.yes rfl rfl) rfl rfl ?_
          first
            | refine NV.pure T (by conv => lhs; whnf; arg 1; whnf) ?_
            | refine NV.eqd T PL rfl rfl rfl Try.eqGuardType26 rfl ?_
          refine RL.step (Gd.none rfl) rfl rfl ?_
          refine NV.pure T (by conv => lhs; whnf; arg 1; whnf) ?_
          refine RL.step (Gd.none rfl) rfl rfl ?_
          refine NV.pure T (by conv => lhs; whnf; arg 1; whnf) ?_
          refine RL.nil _ _ _ _ ?_
          refine hK11 _ _ _ ?_
          refine SW.ret ?_
          refine retQ.ret (H' := H) (RVs.tmp (by conv => lhs; whnf) RVs.nil) (fun w hw => Sat.sub (by repeat first | exact List.Sublist.refl _ | apply List.Sublist.cons_cons | apply List.Sublist.cons) hw) ?_
          clear hK11 K11 hK10 K10 hK9 K9 hK8 K8 hK7 K7 hK6 K6 hK5 K5 hK4 K4 hK3 K3 hK2 K2 hK1 K1 hK0 K0
          first | exact ⟨rfl, rfl⟩ | (refine ⟨bool1 ?_, rfl⟩; simp)
        · try simp only [decide_eq_true_eq, decide_eq_false_iff_not, Bool.not_eq_true', Bool.not_eq_false', Int.not_lt, Int.not_le] at hs0
          exfalso; first | omega | (simp at hs0; done)
theorem parts_ss {w0 : World} {H : List Chunk} (a b : Int) (ha : 0 ≤ a) (ha2 : a ≤ 263) (hb : 0 ≤ b) (hb2 : b ≤ 255)(sa : Option Addr) (n c : Nat) (at_ : Int) (k : Nat) (es : List Int) (hR : ∀ H, Rd w0 H sa n c 1 (es.map (.int .i64))) (hn : n = es.length) (hcap : n ≤ c) (h0 : 0 ≤ at_) (h1 : at_ ≤ 65535) (hk : at_.tmod ((n : Int) + 1) = k) (hkn : k ≤ n) (hs : n ≤ 5000) (x y : Int) (x1 : 0 ≤ x) (x2 : x ≤ 263) (y1 : 0 ≤ y) (y2 : y ≤ 255) (hx : aft a b (es.take k) = some (x, y)) (u v : Int) (hy : aft x y (es.drop k) = some (u, v)) : SC Try.prog w0 5 #[sv a b, .slice sa n c, .int .u16 at_] H (fun v H' => v = .bool true ∧ H' = H) := by
  refine SC.enter Try.func5 rfl (Nat.le_of_ble_eq_true rfl) ?_
  refine SW.seq_k ?_
  intro K0 hK0
  refine SW.region _ _ _ _ ?_
  refine RL.step (Gd.none rfl) rfl rfl ?_
  refine NV.box rfl (by exact (rfl : _ = [_, _, _])) ?_
  intro b3_0
  refine RL.step (Gd.none rfl) rfl rfl ?_
  refine NV.pure T (by conv => lhs; whnf; arg 1; whnf) ?_
  refine RL.nil _ _ _ _ ?_
  refine hK0 _ _ _ ?_
  refine SW.seq_k ?_
  intro K1 hK1
  refine SW.seq_k ?_
  intro K2 hK2
  refine SW.region _ _ _ _ ?_
  refine RL.step (Gd.none rfl) rfl rfl ?_
  refine NV.call rfl rfl rfl fun8 rfl rfl (alive) ?_
  rintro _ _ ⟨rfl, rfl⟩
  refine RL.step (Gd.none rfl) rfl rfl ?_
  refine NV.pure T (by conv => lhs; whnf; arg 1; whnf) ?_
  refine RL.nil _ _ _ _ ?_
  refine hK2 _ _ _ ?_
  refine SW.cond_f rfl ?_
  refine SW.skip ?_
  refine hK1 _ _ _ ?_
  refine SW.seq_k ?_
  intro K3 hK3
  refine SW.seq_k ?_
  intro K4 hK4
  refine SW.region _ _ _ _ ?_
  refine RL.step (Gd.none rfl) rfl rfl ?_
  refine NV.pure T (by conv => lhs; whnf; arg 1; whnf) ?_
  refine RL.step (Gd.none rfl) rfl rfl ?_
  refine NV.pure T (by conv => lhs; whnf; arg 1; whnf) ?_
  refine RL.step (Gd.none rfl) rfl rfl ?_
  refine NV.pure T (by conv => lhs; whnf; arg 1; whnf) ?_
  refine RL.nil _ _ _ _ ?_
  refine hK4 _ _ _ ?_
  refine SW.cond rfl (fun hc1 => ?_) (fun hc1 => ?_)
  · try simp only [decide_eq_true_eq, decide_eq_false_iff_not, Bool.not_eq_true', Bool.not_eq_false', Int.not_lt, Int.not_le] at hc1
    exfalso; first | omega | (simp at hs0; done)
  · try simp only [decide_eq_true_eq, decide_eq_false_iff_not, Bool.not_eq_true', Bool.not_eq_false', Int.not_lt, Int.not_le] at hc1
    refine SW.skip ?_
    refine hK3 _ _ _ ?_
    refine SW.seq_k ?_
    intro K5 hK5
    refine SW.region _ _ _ _ ?_
    refine RL.step (Gd.none rfl) rfl rfl ?_
    first
      | refine NV.load_var1 T rfl rfl rfl rfl (by repeat first | exact At.head _ _ | apply At.tail) rfl ?_
      | refine NV.load_varN T rfl rfl rfl rfl rfl (by repeat first | exact At.head _ _ | apply At.tail) (by exact (rfl : _ = [_, _, _])) rfl ?_
      | refine NV.load_elem T rfl rfl rfl rfl (by assumption) (by first | exact map_get _ _ (by omega) | assumption) ?_
    refine RL.step (Gd.none rfl) rfl rfl ?_
    refine NV.pure T (by conv => lhs; whnf; arg 1; whnf) ?_
    refine RL.step (Gd.none rfl) rfl rfl ?_
    refine NV.call rfl rfl rfl fun15 rfl rfl (aft_some a b u v sa n c es (hR _) hn (by omega) ha ha2 hb hb2 ((aft_split hx).trans hy)) ?_
    rintro _ _ ⟨rfl, rfl⟩
    refine RL.step (Gd.none rfl) rfl rfl ?_
    refine NV.pure T (by conv => lhs; whnf; arg 1; whnf) ?_
    refine RL.step (Gd.none rfl) rfl rfl ?_
    refine NV.pure T (by conv => lhs; whnf; arg 1; whnf) ?_
    refine RL.step (Gd.none rfl) rfl rfl ?_
    refine NV.pure T (by conv => lhs; whnf; arg 1; whnf) ?_
    refine RL.step (Gd.none rfl) rfl rfl ?_
    refine NV.alloc T rfl rfl rfl (by exact (rfl : _ = [_, _, _])) ?_
    intro b7_1
    refine RL.step (Gd.none rfl) rfl rfl ?_
    first
      | refine NV.store_var1 T rfl rfl rfl rfl (by conv => lhs; whnf) rfl (by repeat first | exact At.head _ _ | apply At.tail) rfl (by exact (rfl : _ = [_, _, _])) ?_
      | refine NV.store_var T rfl rfl rfl (by exact (rfl : _ = [_, _, _])) rfl rfl (by repeat first | exact At.head _ _ | apply At.tail) (Nat.le_of_ble_eq_true rfl) (by exact (rfl : _ = [_, _, _])) ?_
      | refine NV.store_elem T rfl rfl rfl rfl (by conv => lhs; whnf) rfl (by repeat first | exact At.head _ _ | apply At.tail) (by omega) ?_
    refine RL.step (Gd.none rfl) rfl rfl ?_
    refine NV.pure T (by conv => lhs; whnf; arg 1; whnf) ?_
    refine RL.nil _ _ _ _ ?_
    refine hK5 _ _ _ ?_
    refine SW.seq_k ?_
    intro K6 hK6
    refine SW.region _ _ _ _ ?_
    refine RL.step (Gd.none rfl) rfl rfl ?_
    refine NV.pure T (by conv => lhs; whnf; arg 1; whnf) ?_
    refine RL.step (Gd.none rfl) rfl rfl ?_
    refine NV.convI T rfl rfl rfl rfl (by exact (by omega : (-9223372036854775808 : Int) ≤ at_)) (by exact (by omega : at_ ≤ 9223372036854775807)) ?_
    refine RL.step (Gd.none rfl) rfl rfl ?_
    refine NV.pure T (by conv => lhs; whnf; arg 1; whnf) ?_
    refine RL.step (Gd.none rfl) rfl rfl ?_
    refine NV.pure T (by conv => lhs; whnf; arg 1; whnf) ?_
    refine RL.step (Gd.none rfl) rfl rfl ?_
    first
      | refine NV.arith rfl rfl rfl rfl (by omega) (by omega) ?_
      | refine NV.pure T (by conv => lhs; whnf; arg 1; whnf) ?_
    refine RL.step (Gd.none rfl) rfl rfl ?_
    refine NV.rem rfl rfl rfl (by omega) hk ?_
    refine RL.step (Gd.none rfl) rfl rfl ?_
    refine NV.pure T (by conv => lhs; whnf; arg 1; whnf) ?_
    refine RL.nil _ _ _ _ ?_
    refine hK6 _ _ _ ?_
    refine SW.seq_k ?_
    intro K7 hK7
    refine SW.draw [(32, 0), (33, 1), (34, 2), (35, 3), (36, 4), (31, 5), (37, 6), (38, 7), (10, 8), (11, 10)] [[], [], [], [1, 2], [0, 3, 1, 2], [4, 0, 3, 1, 2], [5, 4, 0, 3, 1, 2], [5, 4, 0, 3, 1, 2], [], [8, 6, 5, 4, 0, 3, 1, 2], [7, 5, 4, 0, 3, 1, 2, 9, 8, 6]] mixed (by kernel_rfl) (by kernel_rfl) ?_
    refine RD.q rfl rfl (Gd.none rfl) (by first | exact QV.load_var1 T rfl rfl rfl rfl (by repeat first | exact At.head _ _ | apply At.tail) rfl | exact QV.load_varN T rfl rfl rfl rfl rfl (by repeat first | exact At.head _ _ | apply At.tail) (by exact (rfl : _ = [_, _, _])) rfl | exact QV.load_elem T rfl rfl rfl rfl (by assumption) (by first | exact map_get _ _ (by omega) | assumption)) ?_
    refine RD.q rfl rfl (Gd.none rfl) (pev_sound T (by conv => lhs; whnf; arg 1; whnf)) ?_
    refine RD.q rfl rfl (Gd.none rfl) (pev_sound T (by conv => lhs; whnf; arg 1; whnf)) ?_
    refine RD.q rfl rfl (Gd.none rfl) (by first | exact QV.slice (l := 0) (h := k) T rfl rfl rfl rfl rfl ⟨_, rfl⟩ (by omega) (by omega) | exact QV.slice (l := k) (h := n) T rfl rfl rfl rfl ⟨_, rfl⟩ rfl (by omega) (by omega)) ?_
    apply RD.share
    · intro hsh0
      refine RD.many rfl rfl (.cons ?_ (.cons ?_ .nil))
      · skip
        refine RD1.nv rfl (Gd.none rfl) ?_
        refine NV.call rfl rfl rfl fun15 rfl rfl (aft_some a b x y _ _ _ (es.take k) (sub_lo (hR _) hkn) (by simp; omega) (by omega) ha ha2 hb hb2 hx) ?_
        rintro _ _ ⟨rfl, rfl⟩
        refine ⟨Stab.nil, ?_⟩
        refine RD.q rfl rfl (Gd.none rfl) (pev_sound T (by conv => lhs; whnf; arg 1; whnf)) ?_
        refine RD.q rfl rfl (Gd.none rfl) (pev_sound T (by conv => lhs; whnf; arg 1; whnf)) ?_
        refine RD.q rfl rfl (Gd.none rfl) (pev_sound T (by conv => lhs; whnf; arg 1; whnf)) ?_
        refine RD.nv rfl rfl rfl (Gd.none rfl) ?_
        refine NV.alloc T rfl rfl rfl (by exact (rfl : _ = [_, _, _])) ?_
        intro b10_2
        refine ⟨(Stab.cons rfl (Gd.none rfl) (pev_sound T rfl) (Stab.cons rfl (Gd.none rfl) (pev_sound T rfl) (Stab.cons rfl (Gd.none rfl) (pev_sound T rfl) (Stab.cons rfl (Gd.none rfl) (by first | exact QV.slice (l := 0) (h := k) T rfl rfl rfl rfl rfl ⟨_, rfl⟩ (by omega) (by omega) | exact QV.slice (l := k) (h := n) T rfl rfl rfl rfl ⟨_, rfl⟩ rfl (by omega) (by omega)) (Stab.cons rfl (Gd.none rfl) (pev_sound T rfl) (Stab.cons rfl (Gd.none rfl) (pev_sound T rfl) (Stab.cons rfl (Gd.none rfl) (by first | exact QV.load_var1 T rfl rfl rfl rfl (by repeat first | exact At.head _ _ | apply At.tail) rfl | exact QV.load_varN T rfl rfl rfl rfl rfl (by repeat first | exact At.head _ _ | apply At.tail) rfl rfl | exact QV.load_elem T rfl rfl rfl rfl (by assumption) (by first | exact map_get _ _ (by omega) | assumption)) Stab.nil))))))), ?_⟩
        refine RD.nv rfl rfl rfl (Gd.none rfl) ?_
        first
          | refine NV.store_var1 T rfl rfl rfl rfl (by conv => lhs; whnf) rfl (by repeat first | exact At.head _ _ | apply At.tail) rfl (by exact (rfl : _ = [_, _, _])) ?_
          | refine NV.store_var T rfl rfl rfl (by exact (rfl : _ = [_, _, _])) rfl rfl (by repeat first | exact At.head _ _ | apply At.tail) (Nat.le_of_ble_eq_true rfl) (by exact (rfl : _ = [_, _, _])) ?_
          | refine NV.store_elem T rfl rfl rfl rfl (by conv => lhs; whnf) rfl (by repeat first | exact At.head _ _ | apply At.tail) (by omega) ?_
        refine ⟨(Stab.cons rfl (Gd.none rfl) (pev_sound T rfl) Stab.nil), ?_⟩
        refine RD.q rfl rfl (Gd.none rfl) (pev_sound T (by conv => lhs; whnf; arg 1; whnf)) ?_
        refine RD.k rfl rfl ?_
        exact hsh0 b10_2
      · skip
        refine RD1.nv rfl (Gd.none rfl) ?_
        refine NV.alloc T rfl rfl rfl (by exact (rfl : _ = [_, _, _])) ?_
        intro b10_2
        refine ⟨(Stab.cons rfl (Gd.none rfl) (by first | exact QV.slice (l := 0) (h := k) T rfl rfl rfl rfl rfl ⟨_, rfl⟩ (by omega) (by omega) | exact QV.slice (l := k) (h := n) T rfl rfl rfl rfl ⟨_, rfl⟩ rfl (by omega) (by omega)) (Stab.cons rfl (Gd.none rfl) (pev_sound T rfl) (Stab.cons rfl (Gd.none rfl) (pev_sound T rfl) (Stab.cons rfl (Gd.none rfl) (by first | exact QV.load_var1 T rfl rfl rfl rfl (by repeat first | exact At.head _ _ | apply At.tail) rfl | exact QV.load_varN T rfl rfl rfl rfl rfl (by repeat first | exact At.head _ _ | apply At.tail) rfl rfl | exact QV.load_elem T rfl rfl rfl rfl (by assumption) (by first | exact map_get _ _ (by omega) | assumption)) Stab.nil)))), ?_⟩
        refine RD.nv rfl rfl rfl (Gd.none rfl) ?_
        refine NV.call rfl rfl rfl fun15 rfl rfl (aft_some a b x y _ _ _ (es.take k) (sub_lo (hR _) hkn) (by simp; omega) (by omega) ha ha2 hb hb2 hx) ?_
        rintro _ _ ⟨rfl, rfl⟩
        refine ⟨Stab.nil, ?_⟩
        refine RD.q rfl rfl (Gd.none rfl) (pev_sound T (by conv => lhs; whnf; arg 1; whnf)) ?_
        refine RD.q rfl rfl (Gd.none rfl) (pev_sound T (by conv => lhs; whnf; arg 1; whnf)) ?_
        refine RD.q rfl rfl (Gd.none rfl) (pev_sound T (by conv => lhs; whnf; arg 1; whnf)) ?_
        refine RD.nv rfl rfl rfl (Gd.none rfl) ?_
        first
          | refine NV.store_var1 T rfl rfl rfl rfl (by conv => lhs; whnf) rfl (by repeat first | exact At.head _ _ | apply At.tail) rfl (by exact (rfl : _ = [_, _, _])) ?_
          | refine NV.store_var T rfl rfl rfl (by exact (rfl : _ = [_, _, _])) rfl rfl (by repeat first | exact At.head _ _ | apply At.tail) (Nat.le_of_ble_eq_true rfl) (by exact (rfl : _ = [_, _, _])) ?_
          | refine NV.store_elem T rfl rfl rfl rfl (by conv => lhs; whnf) rfl (by repeat first | exact At.head _ _ | apply At.tail) (by omega) ?_
        refine ⟨(Stab.cons rfl (Gd.none rfl) (pev_sound T rfl) Stab.nil), ?_⟩
        refine RD.q rfl rfl (Gd.none rfl) (pev_sound T (by conv => lhs; whnf; arg 1; whnf)) ?_
        refine RD.k rfl rfl ?_
        exact hsh0 b10_2
    · intro b10_2
      refine hK7 _ _ _ ?_
      refine SW.seq_k ?_
      intro K8 hK8
      refine SW.seq_k ?_
      intro K9 hK9
      refine SW.region _ _ _ _ ?_
      refine RL.step (Gd.none rfl) rfl rfl ?_
      refine NV.pure T (by conv => lhs; whnf; arg 1; whnf) ?_
      refine RL.step (Gd.none rfl) rfl rfl ?_
      refine NV.pure T (by conv => lhs; whnf; arg 1; whnf) ?_
      refine RL.nil _ _ _ _ ?_
      refine hK9 _ _ _ ?_
      refine SW.cond_f rfl ?_
      refine SW.skip ?_
      refine hK8 _ _ _ ?_
      refine SW.seq_k ?_
      intro K10 hK10
      refine SW.draw [(45, 0), (46, 1), (47, 2), (48, 3), (49, 4), (44, 5), (50, 6), (51, 7), (12, 8), (13, 10)] [[], [], [], [1, 2], [0, 3, 1, 2], [4, 0, 3, 1, 2], [5, 4, 0, 3, 1, 2], [5, 4, 0, 3, 1, 2], [], [8, 6, 5, 4, 0, 3, 1, 2], [7, 5, 4, 0, 3, 1, 2, 9, 8, 6]] mixed (by kernel_rfl) (by kernel_rfl) ?_
      refine RD.q rfl rfl (Gd.none rfl) (by first | exact QV.load_var1 T rfl rfl rfl rfl (by repeat first | exact At.head _ _ | apply At.tail) rfl | exact QV.load_varN T rfl rfl rfl rfl rfl (by repeat first | exact At.head _ _ | apply At.tail) (by exact (rfl : _ = [_, _, _])) rfl | exact QV.load_elem T rfl rfl rfl rfl (by assumption) (by first | exact map_get _ _ (by omega) | assumption)) ?_
      refine RD.q rfl rfl (Gd.none rfl) (pev_sound T (by conv => lhs; whnf; arg 1; whnf)) ?_
      refine RD.q rfl rfl (Gd.none rfl) (pev_sound T (by conv => lhs; whnf; arg 1; whnf)) ?_
      refine RD.q rfl rfl (Gd.none rfl) (by first | exact QV.slice (l := 0) (h := k) T rfl rfl rfl rfl rfl ⟨_, rfl⟩ (by omega) (by omega) | exact QV.slice (l := k) (h := n) T rfl rfl rfl rfl ⟨_, rfl⟩ rfl (by omega) (by omega)) ?_
      apply RD.share
      · intro hsh1
        refine RD.many rfl rfl (.cons ?_ (.cons ?_ .nil))
        · skip
          refine RD1.nv rfl (Gd.none rfl) ?_
          refine NV.call rfl rfl rfl fun15 rfl rfl (aft_some x y u v _ _ _ (es.drop k) (sub_hi (hR _) hn hkn) (by simp; omega) (by omega) x1 x2 y1 y2 hy) ?_
          rintro _ _ ⟨rfl, rfl⟩
          refine ⟨Stab.nil, ?_⟩
          refine RD.q rfl rfl (Gd.none rfl) (pev_sound T (by conv => lhs; whnf; arg 1; whnf)) ?_
          refine RD.q rfl rfl (Gd.none rfl) (pev_sound T (by conv => lhs; whnf; arg 1; whnf)) ?_
          refine RD.q rfl rfl (Gd.none rfl) (pev_sound T (by conv => lhs; whnf; arg 1; whnf)) ?_
          refine RD.nv rfl rfl rfl (Gd.none rfl) ?_
          refine NV.alloc T rfl rfl rfl (by exact (rfl : _ = [_, _, _])) ?_
          intro b12_3
          refine ⟨(Stab.cons rfl (Gd.none rfl) (pev_sound T rfl) (Stab.cons rfl (Gd.none rfl) (pev_sound T rfl) (Stab.cons rfl (Gd.none rfl) (pev_sound T rfl) (Stab.cons rfl (Gd.none rfl) (by first | exact QV.slice (l := 0) (h := k) T rfl rfl rfl rfl rfl ⟨_, rfl⟩ (by omega) (by omega) | exact QV.slice (l := k) (h := n) T rfl rfl rfl rfl ⟨_, rfl⟩ rfl (by omega) (by omega)) (Stab.cons rfl (Gd.none rfl) (pev_sound T rfl) (Stab.cons rfl (Gd.none rfl) (pev_sound T rfl) (Stab.cons rfl (Gd.none rfl) (by first | exact QV.load_var1 T rfl rfl rfl rfl (by repeat first | exact At.head _ _ | apply At.tail) rfl | exact QV.load_varN T rfl rfl rfl rfl rfl (by repeat first | exact At.head _ _ | apply At.tail) rfl rfl | exact QV.load_elem T rfl rfl rfl rfl (by assumption) (by first | exact map_get _ _ (by omega) | assumption)) Stab.nil))))))), ?_⟩
          refine RD.nv rfl rfl rfl (Gd.none rfl) ?_
          first
            | refine NV.store_var1 T rfl rfl rfl rfl (by conv => lhs; whnf) rfl (by repeat first | exact At.head _ _ | apply At.tail) rfl (by exact (rfl : _ = [_, _, _])) ?_
            | refine NV.store_var T rfl rfl rfl (by exact (rfl : _ = [_, _, _])) rfl rfl (by repeat first | exact At.head _ _ | apply At.tail) (Nat.le_of_ble_eq_true rfl) (by exact (rfl : _ = [_, _, _])) ?_
            | refine NV.store_elem T rfl rfl rfl rfl (by conv => lhs; whnf) rfl (by repeat first | exact At.head _ _ | apply At.tail) (by omega) ?_
          refine ⟨(Stab.cons rfl (Gd.none rfl) (pev_sound T rfl) Stab.nil), ?_⟩
          refine RD.q rfl rfl (Gd.none rfl) (pev_sound T (by conv => lhs; whnf; arg 1; whnf)) ?_
          refine RD.k rfl rfl ?_
          exact hsh1 b12_3
        · skip
          refine RD1.nv rfl (Gd.none rfl) ?_
          refine NV.alloc T rfl rfl rfl (by exact (rfl : _ = [_, _, _])) ?_
          intro b12_3
          refine ⟨(Stab.cons rfl (Gd.none rfl) (by first | exact QV.slice (l := 0) (h := k) T rfl rfl rfl rfl rfl ⟨_, rfl⟩ (by omega) (by omega) | exact QV.slice (l := k) (h := n) T rfl rfl rfl rfl ⟨_, rfl⟩ rfl (by omega) (by omega)) (Stab.cons rfl (Gd.none rfl) (pev_sound T rfl) (Stab.cons rfl (Gd.none rfl) (pev_sound T rfl) (Stab.cons rfl (Gd.none rfl) (by first | exact QV.load_var1 T rfl rfl rfl rfl (by repeat first | exact At.head _ _ | apply At.tail) rfl | exact QV.load_varN T rfl rfl rfl rfl rfl (by repeat first | exact At.head _ _ | apply At.tail) rfl rfl | exact QV.load_elem T rfl rfl rfl rfl (by assumption) (by first | exact map_get _ _ (by omega) | assumption)) Stab.nil)))), ?_⟩
          refine RD.nv rfl rfl rfl (Gd.none rfl) ?_
          refine NV.call rfl rfl rfl fun15 rfl rfl (aft_some x y u v _ _ _ (es.drop k) (sub_hi (hR _) hn hkn) (by simp; omega) (by omega) x1 x2 y1 y2 hy) ?_
          rintro _ _ ⟨rfl, rfl⟩
          refine ⟨Stab.nil, ?_⟩
          refine RD.q rfl rfl (Gd.none rfl) (pev_sound T (by conv => lhs; whnf; arg 1; whnf)) ?_
          refine RD.q rfl rfl (Gd.none rfl) (pev_sound T (by conv => lhs; whnf; arg 1; whnf)) ?_
          refine RD.q rfl rfl (Gd.none rfl) (pev_sound T (by conv => lhs; whnf; arg 1; whnf)) ?_
          refine RD.nv rfl rfl rfl (Gd.none rfl) ?_
          first
            | refine NV.store_var1 T rfl rfl rfl rfl (by conv => lhs; whnf) rfl (by repeat first | exact At.head _ _ | apply At.tail) rfl (by exact (rfl : _ = [_, _, _])) ?_
            | refine NV.store_var T rfl rfl rfl (by exact (rfl : _ = [_, _, _])) rfl rfl (by repeat first | exact At.head _ _ | apply At.tail) (Nat.le_of_ble_eq_true rfl) (by exact (rfl : _ = [_, _, _])) ?_
            | refine NV.store_elem T rfl rfl rfl rfl (by conv => lhs; whnf) rfl (by repeat first | exact At.head _ _ | apply At.tail) (by omega) ?_
          refine ⟨(Stab.cons rfl (Gd.none rfl) (pev_sound T rfl) Stab.nil), ?_⟩
          refine RD.q rfl rfl (Gd.none rfl) (pev_sound T (by conv => lhs; whnf; arg 1; whnf)) ?_
          refine RD.k rfl rfl ?_
          exact hsh1 b12_3
      · intro b12_3
        refine hK10 _ _ _ ?_
        refine SW.seq_k ?_
        intro K11 hK11
        refine SW.region _ _ _ _ ?_
        refine RL.step (Gd.none rfl) rfl rfl ?_
        first
          | refine NV.load_var1 T rfl rfl rfl rfl (by repeat first | exact At.head _ _ | apply At.tail) rfl ?_
          | refine NV.load_varN T rfl rfl rfl rfl rfl (by repeat first | exact At.head _ _ | apply At.tail) (by exact (rfl : _ = [_, _, _])) rfl ?_
          | refine NV.load_elem T rfl rfl rfl rfl (by assumption) (by first | exact map_get _ _ (by omega) | assumption) ?_
        refine RL.step (Gd.none rfl) rfl rfl ?_
        first
          | refine NV.load_var1 T rfl rfl rfl rfl (by repeat first | exact At.head _ _ | apply At.tail) rfl ?_
          | refine NV.load_varN T rfl rfl rfl rfl rfl (by repeat first | exact At.head _ _ | apply At.tail) (by exact (rfl : _ = [_, _, _])) rfl ?_
          | refine NV.load_elem T rfl rfl rfl rfl (by assumption) (by first | exact map_get _ _ (by omega) | assumption) ?_
        refine RL.step (Gd.none rfl) rfl rfl ?_
        first
          | refine NV.pure T (by conv => lhs; whnf; arg 1; whnf) ?_
          | refine NV.eqd T PL rfl rfl rfl Try.eqGuardType25 rfl ?_
        refine RL.step (Gd.none rfl) rfl rfl ?_
        refine NV.pure T (by conv => lhs; whnf; arg 1; whnf) ?_
        refine RL.split 55 rfl (fun hs0 => ?_) (fun hs0 => ?_)
        · try simp only [decide_eq_true_eq, decide_eq_false_iff_not, Bool.not_eq_true', Bool.not_eq_false', Int.not_lt, Int.not_le] at hs0
          refine RL.step (Gd.yes rfl rfl) rfl rfl ?_
          refine NV.pure T (by conv => lhs; whnf; arg 1; whnf) ?_
          refine RL.step (Gd.yes rfl rfl) rfl rfl ?_
          refine NV.pure T (by conv => lhs; whnf; arg 1; whnf) ?_
          refine RL.step (Gd.yes rfl rfl) rfl rfl ?_
          first
            | refine NV.pure T (by conv => lhs; whnf; arg 1; whnf) ?_
            | refine NV.eqd T PL rfl rfl rfl Try.eqGuardType26 rfl ?_
          refine RL.step (Gd.none rfl) rfl rfl ?_
          refine NV.pure T (by conv => lhs; whnf; arg 1; whnf) ?_
          refine RL.step (Gd.none rfl) rfl rfl ?_
          refine NV.pure T (by conv => lhs; whnf; arg 1; whnf) ?_
          refine RL.nil _ _ _ _ ?_
          refine hK11 _ _ _ ?_
          refine SW.ret ?_
          refine retQ.ret (H' := H) (RVs.tmp (by conv => lhs; whnf) RVs.nil) (fun w hw => Sat.sub (by repeat first | exact List.Sublist.refl _ | apply List.Sublist.cons_cons | apply List.Sublist.cons) hw) ?_
          clear hK11 K11 hK10 K10 hK9 K9 hK8 K8 hK7 K7 hK6 K6 hK5 K5 hK4 K4 hK3 K3 hK2 K2 hK1 K1 hK0 K0
          first | exact ⟨rfl, rfl⟩ | (refine ⟨bool1 ?_, rfl⟩; simp)
        · try simp only [decide_eq_true_eq, decide_eq_false_iff_not, Bool.not_eq_true', Bool.not_eq_false', Int.not_lt, Int.not_le] at hs0
          exfalso; first | omega | (simp at hs0; done)
theorem parts_long {w0 : World} {H : List Chunk} (a b : Int) (c' : Bool) (sa : Option Addr) (n c : Nat) (at_ : Int) (hm : n ≤ 140737488351232) (hs : 5000 < n) : SC Try.prog w0 5 #[.agg #[.int .i64 a, .int .i64 b, .bool c'], .slice sa n c, .int .u16 at_] H (fun v H' => v = .bool true ∧ H' = H) := by
  refine SC.enter Try.func5 rfl (Nat.le_of_ble_eq_true rfl) ?_
  refine SW.seq_k ?_
  intro K0 hK0
  refine SW.region _ _ _ _ ?_
  refine RL.step (Gd.none rfl) rfl rfl ?_
  refine NV.box rfl (by exact (rfl : _ = [_, _, _])) ?_
  intro b3_0
  refine RL.step (Gd.none rfl) rfl rfl ?_
  refine NV.pure T (by conv => lhs; whnf; arg 1; whnf) ?_
  refine RL.nil _ _ _ _ ?_
  refine hK0 _ _ _ ?_
  refine SW.seq_k ?_
  intro K1 hK1
  refine SW.seq_k ?_
  intro K2 hK2
  refine SW.region _ _ _ _ ?_
  refine RL.step (Gd.none rfl) rfl rfl ?_
  refine NV.call rfl rfl rfl fun8 rfl rfl (alive) ?_
  rintro _ _ ⟨rfl, rfl⟩
  refine RL.step (Gd.none rfl) rfl rfl ?_
  refine NV.pure T (by conv => lhs; whnf; arg 1; whnf) ?_
  refine RL.nil _ _ _ _ ?_
  refine hK2 _ _ _ ?_
  refine SW.cond_f rfl ?_
  refine SW.skip ?_
  refine hK1 _ _ _ ?_
  refine SW.seq_k ?_
  intro K3 hK3
  refine SW.seq_k ?_
  intro K4 hK4
  refine SW.region _ _ _ _ ?_
  refine RL.step (Gd.none rfl) rfl rfl ?_
  refine NV.pure T (by conv => lhs; whnf; arg 1; whnf) ?_
  refine RL.step (Gd.none rfl) rfl rfl ?_
  refine NV.pure T (by conv => lhs; whnf; arg 1; whnf) ?_
  refine RL.step (Gd.none rfl) rfl rfl ?_
  refine NV.pure T (by conv => lhs; whnf; arg 1; whnf) ?_
  refine RL.nil _ _ _ _ ?_
  refine hK4 _ _ _ ?_
  refine SW.cond rfl (fun hc1 => ?_) (fun hc1 => ?_)
  · try simp only [decide_eq_true_eq, decide_eq_false_iff_not, Bool.not_eq_true', Bool.not_eq_false', Int.not_lt, Int.not_le] at hc1
    refine SW.seq_k ?_
    intro K5 hK5
    refine SW.region _ _ _ _ ?_
    refine RL.step (Gd.none rfl) rfl rfl ?_
    refine NV.pure T (by conv => lhs; whnf; arg 1; whnf) ?_
    refine RL.nil _ _ _ _ ?_
    refine hK5 _ _ _ ?_
    refine SW.ret ?_
    refine retQ.ret (H' := H) (RVs.tmp (by conv => lhs; whnf) RVs.nil) (fun w hw => Sat.sub (by repeat first | exact List.Sublist.refl _ | apply List.Sublist.cons_cons | apply List.Sublist.cons) hw) ?_
    clear hK5 K5 hK4 K4 hK3 K3 hK2 K2 hK1 K1 hK0 K0
    exact ⟨rfl, rfl⟩
  · try simp only [decide_eq_true_eq, decide_eq_false_iff_not, Bool.not_eq_true', Bool.not_eq_false', Int.not_lt, Int.not_le] at hc1
    exfalso; omega
theorem parts {w0 : World} {H : List Chunk} (a b : Int) (c' : Bool) (sa : Option Addr) (n c : Nat) (at_ : Int) (es : List Int) (hR : ∀ H, Rd w0 H sa n c 1 (es.map (.int .i64))) (hn : n = es.length) (hm : n ≤ 140737488351232) (hcap : n ≤ c) (h0 : 0 ≤ at_) (h1 : at_ ≤ 65535) :
    SC Try.prog w0 5 #[.agg #[.int .i64 a, .int .i64 b, .bool c'], .slice sa n c, .int .u16 at_] H (fun v H' => v = .bool true ∧ H' = H) := by
  by_cases hs : 5000 < n
  · exact parts_long a b c' sa n c at_ hm hs
  have hs' : n ≤ 5000 := by omega
  have g1 : 0 ≤ at_.tmod ((n : Int) + 1) := Int.tmod_nonneg _ h0
  have g2 : at_.tmod ((n : Int) + 1) < (n : Int) + 1 := Int.tmod_lt_of_pos _ (by omega)
  obtain ⟨k, hk⟩ : ∃ k : Nat, at_.tmod ((n : Int) + 1) = k := ⟨(at_.tmod ((n : Int) + 1)).toNat, by omega⟩
  have hkn : k ≤ n := by omega
  cases h : okS a b c' with
  | false => exact parts_bad a b c' h sa n c at_ k es hR hn hcap h0 h1 hk hkn hs'
  | true =>
    obtain ⟨e1, e2, e3, e4, rfl⟩ := okS_true h
    cases hx : aft a b (es.take k) with
    | none => exact parts_no a b e1 e2 e3 e4 sa n c at_ k es hR hn hcap h0 h1 hk hkn hs' hx
    | some p =>
      obtain ⟨x, y⟩ := p
      obtain ⟨x1, x2, y1, y2⟩ := aft_good _ _ _ _ _ e1 e2 e3 e4 hx
      cases hy : aft x y (es.drop k) with
      | none => exact parts_sn a b e1 e2 e3 e4 sa n c at_ k es hR hn hcap h0 h1 hk hkn hs' x y x1 x2 y1 y2 hx hy
      | some q => exact parts_ss a b e1 e2 e3 e4 sa n c at_ k es hR hn hcap h0 h1 hk hkn hs' x y x1 x2 y1 y2 hx q.1 q.2 hy
end Go.Proofs.Ytnlifdnfkmlfbaa.M
