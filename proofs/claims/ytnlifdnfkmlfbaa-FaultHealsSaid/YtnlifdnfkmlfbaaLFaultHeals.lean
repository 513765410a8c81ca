import Derived.Test.YtnlifdnfkmlfbaaFB
set_option linter.unusedVariables false
set_option linter.unusedSimpArgs false
namespace Go.Proofs.Ytnlifdnfkmlfbaa.M
open Go Go.Sep Go.Proofs
set_option maxRecDepth 10000
theorem aft_sent : ∀ (k : Nat) (a b : Int), 0 ≤ a → a ≤ 255 → aft a b (List.replicate k 1) = some (max 0 (a - k), b)
  | 0, a, b, h, _ => by simp only [List.replicate_zero, aft]; congr 2; omega
  | k + 1, a, b, h, h' => by
    have e1 : tec a b 1 = max 0 (a - 1) := by unfold tec; rw [if_neg (by omega), if_pos rfl]
    have e2 : rec_ a b 1 = b := by unfold rec_; rw [if_neg (by omega), if_neg (by decide), if_neg (by decide)]
    rw [List.replicate_succ, aft, if_pos (by decide), e1, e2, aft_sent k _ _ (by omega) (by omega)]
    congr 2; omega
theorem aft_heal {a b : Int} (k : Nat) (h : 0 ≤ a) (h' : a ≤ 255) (hk : (k : Int) ≤ a) : aft a b (List.replicate k 1 ++ [2]) = some (a - k, if 127 < b then 120 else max 0 (b - 1)) := by
  rw [aft_append, aft_sent k a b h h', show max 0 (a - (k : Int)) = a - k by omega]
  show aft (a - k) b [2] = _
  have e1 : tec (a - k) b 2 = a - k := by unfold tec; rw [if_neg (by omega), if_neg (by decide), if_neg (by decide)]; simp
  have e2 : rec_ (a - k) b 2 = if 127 < b then 120 else max 0 (b - 1) := by unfold rec_; rw [if_neg (by omega), if_pos rfl]
  rw [aft, if_pos (by decide), e1, e2]; rfl
theorem heal_drop (m : Nat) (h : 1 ≤ m) : ((List.replicate m (Value.int .i64 1) ++ [Value.int .i64 2]).drop (1 * 1)).take ((m + 1 - 1) * 1) = ((List.replicate (m - 1) 1 ++ [2] : List Int)).map (Value.int .i64) := by
  obtain ⟨k, rfl⟩ : ∃ k, m = k + 1 := ⟨m - 1, by omega⟩
  simp [List.replicate_succ, List.take_of_length_le]
theorem pmode0 {w0 : World} {H : List Chunk} (a b : Int) (ha : 0 ≤ a) (ha2 : a ≤ 127) (hb : 0 ≤ b) (hb2 : b ≤ 127) : SC Try.prog w0 9 #[sv a b] H (fun v H' => v = .tuple #[.int .i64 0, .int .i64 0] ∧ H' = H) :=
  (pmode_ok a b ha (by omega) hb (by omega)).mono fun v H' h => by rw [show modeS a b = 0 by unfold modeS; rw [if_neg (by omega), if_neg (by omega)]] at h; exact h
theorem pmode1 {w0 : World} {H : List Chunk} (a b : Int) (ha : 127 < a) (ha2 : a ≤ 255) (hb : 0 ≤ b) (hb2 : b ≤ 255) : SC Try.prog w0 9 #[sv a b] H (fun v H' => v = .tuple #[.int .i64 1, .int .i64 0] ∧ H' = H) :=
  (pmode_ok a b (by omega) (by omega) hb (by omega)).mono fun v H' h => by rw [show modeS a b = 1 by unfold modeS; rw [if_neg (by omega), if_pos (by omega)]] at h; exact h
theorem heals_ok {w0 : World} {H : List Chunk} (a b : Int) (mm : Nat) (hm : max 0 (a - 127) = (mm : Int)) (hoff : a ≤ 255) (x y : Int) (hx : a - (mm : Int) = x) (hy : (if 127 < b then 120 else max 0 (b - 1)) = y) (x1 : 0 ≤ x) (x2 : x ≤ 127) (y1 : 0 ≤ y) (y2 : y ≤ 127) (ha : 0 ≤ a) (ha2 : a ≤ 263) (hb : 0 ≤ b) (hb2 : b ≤ 255) : SC Try.prog w0 7 #[sv a b] H (fun v H' => v = .bool true ∧ H' = H) := by
  refine SC.enter Try.func7 rfl (Nat.le_of_ble_eq_true rfl) ?_
  refine SW.seq_k ?_
  intro K0 hK0
  refine SW.region _ _ _ _ ?_
  refine RL.step (Gd.none rfl) rfl rfl ?_
  refine NV.box rfl (by exact (rfl : _ = [_, _, _])) ?_
  intro b1_0
  refine RL.step (Gd.none rfl) rfl rfl ?_
  refine NV.pure T (by conv => lhs; whnf; arg 1; whnf) ?_
  refine RL.nil _ _ _ _ ?_
  refine hK0 _ _ _ ?_
  refine SW.seq_k ?_
  intro K1 hK1
  refine SW.seq_k ?_
  intro K2 hK2
  refine SW.region _ _ _ _ ?_
  refine RL.step (Gd.none rfl) rfl rfl ?_
  refine NV.call rfl rfl rfl fun8 rfl rfl (alive) ?_
  rintro _ _ ⟨rfl, rfl⟩
  refine RL.step (Gd.none rfl) rfl rfl ?_
  refine NV.pure T (by conv => lhs; whnf; arg 1; whnf) ?_
  refine RL.nil _ _ _ _ ?_
  refine hK2 _ _ _ ?_
  refine SW.cond_f rfl ?_
  refine SW.skip ?_
  refine hK1 _ _ _ ?_
  refine SW.seq_k ?_
  intro K3 hK3
  refine SW.region _ _ _ _ ?_
  refine RL.step (Gd.none rfl) rfl rfl ?_
  first
    | refine NV.load_var1 T rfl rfl rfl rfl (by repeat first | exact At.head _ _ | apply At.tail) rfl ?_
    | refine NV.load_varN T rfl rfl rfl rfl rfl (by repeat first | exact At.head _ _ | apply At.tail) (by exact (rfl : _ = [_, _, _])) rfl ?_
    | refine NV.load_elem T rfl rfl rfl rfl (by assumption) (by first | exact map_get _ _ (by omega) | assumption) ?_
  refine RL.step (Gd.none rfl) rfl rfl ?_
  refine NV.alloc T rfl rfl rfl (by exact (rfl : _ = [_, _, _])) ?_
  intro b3_1
  refine RL.step (Gd.none rfl) rfl rfl ?_
  first
    | refine NV.store_var1 T rfl rfl rfl rfl (by conv => lhs; whnf) rfl (by repeat first | exact At.head _ _ | apply At.tail) rfl (by exact (rfl : _ = [_, _, _])) ?_
    | refine NV.store_var T rfl rfl rfl (by exact (rfl : _ = [_, _, _])) rfl rfl (by repeat first | exact At.head _ _ | apply At.tail) (Nat.le_of_ble_eq_true rfl) (by exact (rfl : _ = [_, _, _])) ?_
    | refine NV.store_elem T rfl rfl rfl rfl (by conv => lhs; whnf) rfl (by repeat first | exact At.head _ _ | apply At.tail) (by omega) ?_
  refine RL.nil _ _ _ _ ?_
  refine hK3 _ _ _ ?_
  refine SW.seq_k ?_
  intro K4 hK4
  refine SW.seq_k ?_
  intro K5 hK5
  refine SW.region _ _ _ _ ?_
  refine RL.step (Gd.none rfl) rfl rfl ?_
  first
    | refine NV.load_var1 T rfl rfl rfl rfl (by repeat first | exact At.head _ _ | apply At.tail) rfl ?_
    | refine NV.load_varN T rfl rfl rfl rfl rfl (by repeat first | exact At.head _ _ | apply At.tail) (by exact (rfl : _ = [_, _, _])) rfl ?_
    | refine NV.load_elem T rfl rfl rfl rfl (by assumption) (by first | exact map_get _ _ (by omega) | assumption) ?_
  refine RL.step (Gd.none rfl) rfl rfl ?_
  refine NV.call rfl rfl rfl fun13 rfl rfl (check_ok a b ha ha2 hb hb2) ?_
  rintro _ _ ⟨rfl, rfl⟩
  refine RL.step (Gd.none rfl) rfl rfl ?_
  refine NV.pure T (by conv => lhs; whnf; arg 1; whnf) ?_
  refine RL.step (Gd.none rfl) rfl rfl ?_
  refine NV.pure T (by conv => lhs; whnf; arg 1; whnf) ?_
  refine RL.split 20 rfl (fun hs0 => ?_) (fun hs0 => ?_)
  · try simp only [decide_eq_true_eq, decide_eq_false_iff_not, Bool.not_eq_true', Bool.not_eq_false', Int.not_lt, Int.not_le] at hs0
    first
      | (exfalso; first | omega | (simp at *; done) | (simp at *; omega))
      | (
        refine RL.guard_no rfl rfl rfl ?_
        refine RL.guard_no rfl rfl rfl ?_
        refine RL.step (Gd.none rfl) rfl rfl ?_
        refine NV.pure T (by conv => lhs; whnf; arg 1; whnf) ?_
        refine RL.nil _ _ _ _ ?_
        refine hK5 _ _ _ ?_
        refine SW.cond_t rfl ?_
        refine SW.seq_k ?_
        intro K6 hK6
        refine SW.region _ _ _ _ ?_
        refine RL.step (Gd.none rfl) rfl rfl ?_
        refine NV.pure T (by conv => lhs; whnf; arg 1; whnf) ?_
        refine RL.nil _ _ _ _ ?_
        refine hK6 _ _ _ ?_
        refine SW.ret ?_
        refine retQ.ret (H' := H) (RVs.tmp (by conv => lhs; whnf) RVs.nil) (fun w hw => Sat.sub (by repeat first | exact List.Sublist.refl _ | apply List.Sublist.cons_cons | apply List.Sublist.cons) hw) ?_
        clear hK6 K6 hK5 K5 hK4 K4 hK3 K3 hK2 K2 hK1 K1 hK0 K0
        exact ⟨rfl, rfl⟩
        )
  · try simp only [decide_eq_true_eq, decide_eq_false_iff_not, Bool.not_eq_true', Bool.not_eq_false', Int.not_lt, Int.not_le] at hs0
    first
      | (exfalso; first | omega | (simp at *; done) | (simp at *; omega))
      | (
        refine RL.step (Gd.yes rfl rfl) rfl rfl ?_
        refine NV.pure T (by conv => lhs; whnf; arg 1; whnf) ?_
        refine RL.step (Gd.yes rfl rfl) rfl rfl ?_
        first
          | refine NV.load_var1 T rfl rfl rfl rfl (by repeat first | exact At.head _ _ | apply At.tail) rfl ?_
          | refine NV.load_varN T rfl rfl rfl rfl rfl (by repeat first | exact At.head _ _ | apply At.tail) (by exact (rfl : _ = [_])) rfl ?_
          | refine NV.load_elem T rfl rfl rfl rfl (by assumption) (by first | exact map_get _ _ (by omega) | assumption) ?_
        refine RL.step (Gd.none rfl) rfl rfl ?_
        refine NV.pure T (by conv => lhs; whnf; arg 1; whnf) ?_
        refine RL.nil _ _ _ _ ?_
        refine hK5 _ _ _ ?_
        refine SW.cond rfl (fun hc1 => ?_) (fun hc1 => ?_)
        · try simp only [decide_eq_true_eq, decide_eq_false_iff_not, Bool.not_eq_true', Bool.not_eq_false', Int.not_lt, Int.not_le] at hc1
          first
            | (exfalso; first | omega | (simp at *; done) | (simp at *; omega))
            | (
              refine SW.seq_k ?_
              intro K7 hK7
              refine SW.region _ _ _ _ ?_
              refine RL.step (Gd.none rfl) rfl rfl ?_
              refine NV.pure T (by conv => lhs; whnf; arg 1; whnf) ?_
              refine RL.nil _ _ _ _ ?_
              refine hK7 _ _ _ ?_
              refine SW.ret ?_
              refine retQ.ret (H' := H) (RVs.tmp (by conv => lhs; whnf) RVs.nil) (fun w hw => Sat.sub (by repeat first | exact List.Sublist.refl _ | apply List.Sublist.cons_cons | apply List.Sublist.cons) hw) ?_
              clear hK7 K7 hK5 K5 hK4 K4 hK3 K3 hK2 K2 hK1 K1 hK0 K0
              exact ⟨rfl, rfl⟩
              )
        · try simp only [decide_eq_true_eq, decide_eq_false_iff_not, Bool.not_eq_true', Bool.not_eq_false', Int.not_lt, Int.not_le] at hc1
          first
            | (exfalso; first | omega | (simp at *; done) | (simp at *; omega))
            | (
              refine SW.skip ?_
              refine hK4 _ _ _ ?_
              refine SW.seq_k ?_
              intro K8 hK8
              refine SW.region _ _ _ _ ?_
              refine RL.step (Gd.none rfl) rfl rfl ?_
              refine NV.pure T (by conv => lhs; whnf; arg 1; whnf) ?_
              refine RL.step (Gd.none rfl) rfl rfl ?_
              first
                | refine NV.load_var1 T rfl rfl rfl rfl (by repeat first | exact At.head _ _ | apply At.tail) rfl ?_
                | refine NV.load_varN T rfl rfl rfl rfl rfl (by repeat first | exact At.head _ _ | apply At.tail) (by exact (rfl : _ = [_])) rfl ?_
                | refine NV.load_elem T rfl rfl rfl rfl (by assumption) (by first | exact map_get _ _ (by omega) | assumption) ?_
              refine RL.step (Gd.none rfl) rfl rfl ?_
              first
                | refine NV.arith rfl rfl rfl rfl (by omega) (by omega) ?_
                | refine NV.pure T (by conv => lhs; whnf; arg 1; whnf) ?_
              refine RL.step (Gd.none rfl) rfl rfl ?_
              refine QV.nv _ _ _ (fun c hc => by cases hc) (QV.as (v' := .int .i64 mm) (pev_sound T (by conv => lhs; whnf; arg 1; whnf)) (by rw [← hm])) ?_
              refine RL.step (Gd.none rfl) rfl rfl ?_
              refine NV.pure T (by conv => lhs; whnf; arg 1; whnf) ?_
              refine RL.nil _ _ _ _ ?_
              refine hK8 _ _ _ ?_
              refine SW.seq_k ?_
              intro K9 hK9
              refine SW.region _ _ _ _ ?_
              refine RL.nilrow 3 1 ?_
              refine RL.step (Gd.none rfl) rfl rfl ?_
              refine NV.pure T (by conv => lhs; whnf; arg 1; whnf) ?_
              refine RL.nil _ _ _ _ ?_
              refine hK9 _ _ _ ?_
              refine SW.seq_k ?_
              intro K10 hK10
              refine SW.seq_k ?_
              intro K11 hK11
              refine SW.region _ _ _ _ ?_
              refine RL.step (Gd.none rfl) rfl rfl ?_
              refine NV.pure T (by conv => lhs; whnf; arg 1; whnf) ?_
              refine RL.step (Gd.none rfl) rfl rfl ?_
              refine NV.pure T (by conv => lhs; whnf; arg 1; whnf) ?_
              refine RL.nil _ _ _ _ ?_
              refine hK11 _ _ _ ?_
              refine SW.block ?_
              refine SW.loop (fun m fr ds HH => ∃ (frU : Fr) (k : Nat) (sa : Option Addr) (c : Nat), m = mm - k ∧ (k ≤ mm) ∧ fr = (upd (upd (upd (upd (upd frU 3 (.pointer (some ⟨b3_1, 0, none⟩))) 4 (.int .i64 mm)) 5 (.slice sa k c)) 28 (.int .i64 mm)) 29 (.int .i64 k)) ∧ ds = [] ∧ HH = (.row sa k c 3 1 (List.replicate k (.int .i64 1)) :: .var b3_1 25 [.int .i64 a, .int .i64 b, .bool (decide (255 < a))] :: .var b1_0 23 [.int .i64 a, .int .i64 b, .bool (decide (255 < a))] :: H)) (n := mm - 0) ?_ ?_
              · exact ⟨_, 0, none, 0, rfl, (Nat.zero_le _), ((@upd_eta _ 3 _ rfl).trans ((@upd_eta _ 4 _ rfl).trans ((@upd_eta _ 5 _ rfl).trans ((@upd_eta _ 28 _ rfl).trans (@upd_eta _ 29 _ rfl))))), rfl, rfl⟩
              · rintro m fr ds HH ⟨frU, k, sa, c, rfl, hk, rfl, rfl, rfl⟩
                refine SW.seq_k ?_
                intro K12 hK12
                refine SW.region _ _ _ _ ?_
                refine RL.step (Gd.none rfl) rfl rfl ?_
                refine NV.pure T (by conv => lhs; whnf; arg 1; whnf) ?_
                refine RL.nil _ _ _ _ ?_
                refine hK12 _ _ _ ?_
                refine SW.seq_k ?_
                intro K13 hK13
                refine SW.cond rfl (fun hc2 => ?_) (fun hc2 => ?_)
                · try simp only [decide_eq_true_eq, decide_eq_false_iff_not, Bool.not_eq_true', Bool.not_eq_false', Int.not_lt, Int.not_le] at hc2
                  first
                    | (exfalso; first | omega | (simp at *; done) | (simp at *; omega))
                    | (
                      refine SW.skip ?_
                      refine hK13 _ _ _ ?_
                      refine SW.seq_k ?_
                      intro K14 hK14
                      refine SW.block ?_
                      refine SW.region _ _ _ _ ?_
                      refine RL.step (Gd.none rfl) rfl rfl ?_
                      refine NV.pure T (by conv => lhs; whnf; arg 1; whnf) ?_
                      refine RL.step (Gd.none rfl) rfl rfl ?_
                      refine NV.build1 T rfl (by conv => lhs; whnf) rfl rfl (by conv => lhs; whnf) (by exact (rfl : _ = some [_])) ?_
                      intro b32_2
                      refine RL.step (Gd.none rfl) rfl rfl ?_
                      first
                        | refine NV.append1 T rfl rfl rfl rfl rfl rfl rfl rfl rfl rfl (by repeat first | exact At.head _ _ | apply At.tail) (ones rfl) (by first | omega | (unfold maxLen; omega)) (by first | omega | (show (_ + _) * 8 ≤ 140737488355328; omega)) ?_
                        | refine NV.append T rfl rfl rfl rfl rfl rfl rfl rfl rfl rfl (by repeat first | exact At.head _ _ | apply At.tail) (by assumption) (ones rfl) (by first | omega | (unfold maxLen; omega)) (by first | omega | (show (_ + _) * 8 ≤ 140737488355328; omega)) ?_
                      intro a0_ c0_
                      refine RL.step (Gd.none rfl) rfl rfl ?_
                      refine NV.pure T (by conv => lhs; whnf; arg 1; whnf) ?_
                      refine RL.nil _ _ _ _ ?_
                      refine hK14 _ _ _ ?_
                      refine SW.region _ _ _ _ ?_
                      refine RL.step (Gd.none rfl) rfl rfl ?_
                      first
                        | refine NV.arith rfl rfl rfl rfl (by omega) (by omega) ?_
                        | refine NV.pure T (by conv => lhs; whnf; arg 1; whnf) ?_
                      refine RL.step (Gd.none rfl) rfl rfl ?_
                      refine NV.pure T (by conv => lhs; whnf; arg 1; whnf) ?_
                      refine RL.nil _ _ _ _ ?_
                      exact ⟨mm - (k + 1), (by omega), _, k + 1, _, _, (by rfl), (by omega), ((@upd_eta _ 3 _ rfl).trans ((@upd_eta _ 4 _ rfl).trans ((@upd_eta _ 5 _ rfl).trans ((@upd_eta _ 28 _ rfl).trans (@upd_eta _ 29 _ rfl))))), rfl, (by rw [List.replicate_succ'])⟩
                      )
                · try simp only [decide_eq_true_eq, decide_eq_false_iff_not, Bool.not_eq_true', Bool.not_eq_false', Int.not_lt, Int.not_le] at hc2
                  obtain rfl : k = mm := by omega
                  first
                    | (exfalso; first | omega | (simp at *; done) | (simp at *; omega))
                    | (
                      refine SW.exit ?_
                      refine hK10 _ _ _ ?_
                      refine SW.seq_k ?_
                      intro K15 hK15
                      refine SW.region _ _ _ _ ?_
                      refine RL.step (Gd.none rfl) rfl rfl ?_
                      refine NV.pure T (by conv => lhs; whnf; arg 1; whnf) ?_
                      refine RL.step (Gd.none rfl) rfl rfl ?_
                      refine NV.build1 T rfl (by conv => lhs; whnf) rfl rfl (by conv => lhs; whnf) (by exact (rfl : _ = some [_])) ?_
                      intro b36_3
                      refine RL.step (Gd.none rfl) rfl rfl ?_
                      first
                        | refine NV.append1 T rfl rfl rfl rfl rfl rfl rfl rfl rfl rfl (by repeat first | exact At.head _ _ | apply At.tail) (ones rfl) (by first | omega | (unfold maxLen; omega)) (by first | omega | (show (_ + _) * 8 ≤ 140737488355328; omega)) ?_
                        | refine NV.append T rfl rfl rfl rfl rfl rfl rfl rfl rfl rfl (by repeat first | exact At.head _ _ | apply At.tail) (by assumption) (ones rfl) (by first | omega | (unfold maxLen; omega)) (by first | omega | (show (_ + _) * 8 ≤ 140737488355328; omega)) ?_
                      intro a1_ c1_
                      refine RL.step (Gd.none rfl) rfl rfl ?_
                      refine NV.pure T (by conv => lhs; whnf; arg 1; whnf) ?_
                      refine RL.nil _ _ _ _ ?_
                      refine hK15 _ _ _ ?_
                      refine SW.seq_k ?_
                      intro K16 hK16
                      refine SW.region _ _ _ _ ?_
                      refine RL.step (Gd.none rfl) rfl rfl ?_
                      first
                        | refine NV.load_var1 T rfl rfl rfl rfl (by repeat first | exact At.head _ _ | apply At.tail) rfl ?_
                        | refine NV.load_varN T rfl rfl rfl rfl rfl (by repeat first | exact At.head _ _ | apply At.tail) (by exact (rfl : _ = [_, _, _])) rfl ?_
                        | refine NV.load_elem T rfl rfl rfl rfl (by assumption) (by first | exact map_get _ _ (by omega) | assumption) ?_
                      refine RL.step (Gd.none rfl) rfl rfl ?_
                      refine NV.pure T (by conv => lhs; whnf; arg 1; whnf) ?_
                      refine RL.step (Gd.none rfl) rfl rfl ?_
                      refine NV.sat (fun hs => ?_) (fun c hc => by cases hc); have hcap := (Rd.row (At.head _ _) hs).cap
                      refine NV.call rfl rfl rfl fun15 rfl rfl (aft_some a b x y _ _ _ (List.replicate k 1 ++ [2]) ((Rd.row (by repeat first | exact At.head _ _ | apply At.tail) hs).as (by simp)) (by simp) (by omega) ha ha2 hb hb2 (by rw [aft_heal k ha hoff (by omega), hx, hy])) ?_
                      rintro _ _ ⟨rfl, rfl⟩
                      refine RL.step (Gd.none rfl) rfl rfl ?_
                      refine NV.pure T (by conv => lhs; whnf; arg 1; whnf) ?_
                      refine RL.step (Gd.none rfl) rfl rfl ?_
                      refine NV.pure T (by conv => lhs; whnf; arg 1; whnf) ?_
                      refine RL.step (Gd.none rfl) rfl rfl ?_
                      refine NV.pure T (by conv => lhs; whnf; arg 1; whnf) ?_
                      refine RL.step (Gd.none rfl) rfl rfl ?_
                      refine NV.alloc T rfl rfl rfl (by exact (rfl : _ = [_, _, _])) ?_
                      intro b6_4
                      refine RL.step (Gd.none rfl) rfl rfl ?_
                      first
                        | refine NV.store_var1 T rfl rfl rfl rfl (by conv => lhs; whnf) rfl (by repeat first | exact At.head _ _ | apply At.tail) rfl (by exact (rfl : _ = [_, _, _])) ?_
                        | refine NV.store_var T rfl rfl rfl (by exact (rfl : _ = [_, _, _])) rfl rfl (by repeat first | exact At.head _ _ | apply At.tail) (Nat.le_of_ble_eq_true rfl) (by exact (rfl : _ = [_, _, _])) ?_
                        | refine NV.store_elem T rfl rfl rfl rfl (by conv => lhs; whnf) rfl (by repeat first | exact At.head _ _ | apply At.tail) (by omega) ?_
                      refine RL.step (Gd.none rfl) rfl rfl ?_
                      refine NV.pure T (by conv => lhs; whnf; arg 1; whnf) ?_
                      refine RL.nil _ _ _ _ ?_
                      refine hK16 _ _ _ ?_
                      refine SW.seq_k ?_
                      intro K17 hK17
                      refine SW.region _ _ _ _ ?_
                      refine RL.step (Gd.none rfl) rfl rfl ?_
                      first
                        | refine NV.load_var1 T rfl rfl rfl rfl (by repeat first | exact At.head _ _ | apply At.tail) rfl ?_
                        | refine NV.load_varN T rfl rfl rfl rfl rfl (by repeat first | exact At.head _ _ | apply At.tail) (by exact (rfl : _ = [_, _, _])) rfl ?_
                        | refine NV.load_elem T rfl rfl rfl rfl (by assumption) (by first | exact map_get _ _ (by omega) | assumption) ?_
                      refine RL.step (Gd.none rfl) rfl rfl ?_
                      refine NV.call rfl rfl rfl fun9 rfl rfl (pmode0 x y x1 x2 y1 y2) ?_
                      rintro _ _ ⟨rfl, rfl⟩
                      refine RL.step (Gd.none rfl) rfl rfl ?_
                      refine NV.pure T (by conv => lhs; whnf; arg 1; whnf) ?_
                      refine RL.step (Gd.none rfl) rfl rfl ?_
                      refine NV.pure T (by conv => lhs; whnf; arg 1; whnf) ?_
                      refine RL.step (Gd.none rfl) rfl rfl ?_
                      refine NV.pure T (by conv => lhs; whnf; arg 1; whnf) ?_
                      refine RL.step (Gd.none rfl) rfl rfl ?_
                      refine NV.pure T (by conv => lhs; whnf; arg 1; whnf) ?_
                      refine RL.step (Gd.none rfl) rfl rfl ?_
                      refine NV.pure T (by conv => lhs; whnf; arg 1; whnf) ?_
                      refine RL.nil _ _ _ _ ?_
                      refine hK17 _ _ _ ?_
                      refine SW.seq_k ?_
                      intro K18 hK18
                      refine SW.seq_k ?_
                      intro K19 hK19
                      refine SW.region _ _ _ _ ?_
                      refine RL.step (Gd.none rfl) rfl rfl ?_
                      refine NV.pure T (by conv => lhs; whnf; arg 1; whnf) ?_
                      refine RL.step (Gd.none rfl) rfl rfl ?_
                      refine NV.pure T (by conv => lhs; whnf; arg 1; whnf) ?_
                      refine RL.step (Gd.none rfl) rfl rfl ?_
                      refine NV.pure T (by conv => lhs; whnf; arg 1; whnf) ?_
                      refine RL.split 51 rfl (fun hs1 => ?_) (fun hs1 => ?_)
                      · try simp only [decide_eq_true_eq, decide_eq_false_iff_not, Bool.not_eq_true', Bool.not_eq_false', Int.not_lt, Int.not_le] at hs1
                        first
                          | (exfalso; first | omega | (simp at *; done) | (simp at *; omega))
                          | (
                            refine RL.guard_no rfl rfl rfl ?_
                            refine RL.guard_no rfl rfl rfl ?_
                            refine RL.step (Gd.none rfl) rfl rfl ?_
                            refine NV.pure T (by conv => lhs; whnf; arg 1; whnf) ?_
                            refine RL.step (Gd.none rfl) rfl rfl ?_
                            refine NV.pure T (by conv => lhs; whnf; arg 1; whnf) ?_
                            refine RL.guard_no rfl rfl rfl ?_
                            refine RL.guard_no rfl rfl rfl ?_
                            refine RL.step (Gd.none rfl) rfl rfl ?_
                            refine NV.pure T (by conv => lhs; whnf; arg 1; whnf) ?_
                            refine RL.nil _ _ _ _ ?_
                            refine hK19 _ _ _ ?_
                            refine SW.cond_t rfl ?_
                            refine SW.seq_k ?_
                            intro K20 hK20
                            refine SW.region _ _ _ _ ?_
                            refine RL.step (Gd.none rfl) rfl rfl ?_
                            refine NV.pure T (by conv => lhs; whnf; arg 1; whnf) ?_
                            refine RL.nil _ _ _ _ ?_
                            refine hK20 _ _ _ ?_
                            refine SW.ret ?_
                            refine retQ.ret (H' := H) (RVs.tmp (by conv => lhs; whnf) RVs.nil) (fun w hw => Sat.sub (by repeat first | exact List.Sublist.refl _ | apply List.Sublist.cons_cons | apply List.Sublist.cons) hw) ?_
                            clear hK20 K20 hK19 K19 hK18 K18 hK17 K17 hK16 K16 hK15 K15 hK13 K13 hK12 K12 hK11 K11 hK10 K10 hK9 K9 hK8 K8 hK5 K5 hK4 K4 hK3 K3 hK2 K2 hK1 K1 hK0 K0
                            exact ⟨rfl, rfl⟩
                            )
                      · try simp only [decide_eq_true_eq, decide_eq_false_iff_not, Bool.not_eq_true', Bool.not_eq_false', Int.not_lt, Int.not_le] at hs1
                        first
                          | (exfalso; first | omega | (simp at *; done) | (simp at *; omega))
                          | (
                            refine RL.step (Gd.yes rfl rfl) rfl rfl ?_
                            refine NV.pure T (by conv => lhs; whnf; arg 1; whnf) ?_
                            refine RL.step (Gd.yes rfl rfl) rfl rfl ?_
                            refine NV.pure T (by conv => lhs; whnf; arg 1; whnf) ?_
                            refine RL.step (Gd.none rfl) rfl rfl ?_
                            refine NV.pure T (by conv => lhs; whnf; arg 1; whnf) ?_
                            refine RL.step (Gd.none rfl) rfl rfl ?_
                            refine NV.pure T (by conv => lhs; whnf; arg 1; whnf) ?_
                            refine RL.split 55 rfl (fun hs2 => ?_) (fun hs2 => ?_)
                            · try simp only [decide_eq_true_eq, decide_eq_false_iff_not, Bool.not_eq_true', Bool.not_eq_false', Int.not_lt, Int.not_le] at hs2
                              first
                                | (exfalso; first | omega | (simp at *; done) | (simp at *; omega))
                                | (
                                  refine RL.guard_no rfl rfl rfl ?_
                                  refine RL.guard_no rfl rfl rfl ?_
                                  refine RL.step (Gd.none rfl) rfl rfl ?_
                                  refine NV.pure T (by conv => lhs; whnf; arg 1; whnf) ?_
                                  refine RL.nil _ _ _ _ ?_
                                  refine hK19 _ _ _ ?_
                                  refine SW.cond_t rfl ?_
                                  refine SW.seq_k ?_
                                  intro K21 hK21
                                  refine SW.region _ _ _ _ ?_
                                  refine RL.step (Gd.none rfl) rfl rfl ?_
                                  refine NV.pure T (by conv => lhs; whnf; arg 1; whnf) ?_
                                  refine RL.nil _ _ _ _ ?_
                                  refine hK21 _ _ _ ?_
                                  refine SW.ret ?_
                                  refine retQ.ret (H' := H) (RVs.tmp (by conv => lhs; whnf) RVs.nil) (fun w hw => Sat.sub (by repeat first | exact List.Sublist.refl _ | apply List.Sublist.cons_cons | apply List.Sublist.cons) hw) ?_
                                  clear hK21 K21 hK19 K19 hK18 K18 hK17 K17 hK16 K16 hK15 K15 hK13 K13 hK12 K12 hK11 K11 hK10 K10 hK9 K9 hK8 K8 hK5 K5 hK4 K4 hK3 K3 hK2 K2 hK1 K1 hK0 K0
                                  exact ⟨rfl, rfl⟩
                                  )
                            · try simp only [decide_eq_true_eq, decide_eq_false_iff_not, Bool.not_eq_true', Bool.not_eq_false', Int.not_lt, Int.not_le] at hs2
                              first
                                | (exfalso; first | omega | (simp at *; done) | (simp at *; omega))
                                | (
                                  refine RL.step (Gd.yes rfl rfl) rfl rfl ?_
                                  refine NV.pure T (by conv => lhs; whnf; arg 1; whnf) ?_
                                  refine RL.step (Gd.yes rfl rfl) rfl rfl ?_
                                  refine NV.pure T (by conv => lhs; whnf; arg 1; whnf) ?_
                                  refine RL.step (Gd.none rfl) rfl rfl ?_
                                  refine NV.pure T (by conv => lhs; whnf; arg 1; whnf) ?_
                                  refine RL.nil _ _ _ _ ?_
                                  refine hK19 _ _ _ ?_
                                  refine SW.cond rfl (fun hc3 => ?_) (fun hc3 => ?_)
                                  · try simp only [decide_eq_true_eq, decide_eq_false_iff_not, Bool.not_eq_true', Bool.not_eq_false', Int.not_lt, Int.not_le] at hc3
                                    first
                                      | (exfalso; first | omega | (simp at *; done) | (simp at *; omega))
                                      | (
                                        refine SW.seq_k ?_
                                        intro K22 hK22
                                        refine SW.region _ _ _ _ ?_
                                        refine RL.step (Gd.none rfl) rfl rfl ?_
                                        refine NV.pure T (by conv => lhs; whnf; arg 1; whnf) ?_
                                        refine RL.nil _ _ _ _ ?_
                                        refine hK22 _ _ _ ?_
                                        refine SW.ret ?_
                                        refine retQ.ret (H' := H) (RVs.tmp (by conv => lhs; whnf) RVs.nil) (fun w hw => Sat.sub (by repeat first | exact List.Sublist.refl _ | apply List.Sublist.cons_cons | apply List.Sublist.cons) hw) ?_
                                        clear hK22 K22 hK19 K19 hK18 K18 hK17 K17 hK16 K16 hK15 K15 hK13 K13 hK12 K12 hK11 K11 hK10 K10 hK9 K9 hK8 K8 hK5 K5 hK4 K4 hK3 K3 hK2 K2 hK1 K1 hK0 K0
                                        exact ⟨rfl, rfl⟩
                                        )
                                  · try simp only [decide_eq_true_eq, decide_eq_false_iff_not, Bool.not_eq_true', Bool.not_eq_false', Int.not_lt, Int.not_le] at hc3
                                    first
                                      | (exfalso; first | omega | (simp at *; done) | (simp at *; omega))
                                      | (
                                        refine SW.skip ?_
                                        refine hK18 _ _ _ ?_
                                        refine SW.seq_k ?_
                                        intro K23 hK23
                                        refine SW.seq_k ?_
                                        intro K24 hK24
                                        refine SW.region _ _ _ _ ?_
                                        refine RL.step (Gd.none rfl) rfl rfl ?_
                                        refine NV.pure T (by conv => lhs; whnf; arg 1; whnf) ?_
                                        refine RL.step (Gd.none rfl) rfl rfl ?_
                                        refine NV.pure T (by conv => lhs; whnf; arg 1; whnf) ?_
                                        refine RL.nil _ _ _ _ ?_
                                        refine hK24 _ _ _ ?_
                                        refine SW.cond rfl (fun hc4 => ?_) (fun hc4 => ?_)
                                        · try simp only [decide_eq_true_eq, decide_eq_false_iff_not, Bool.not_eq_true', Bool.not_eq_false', Int.not_lt, Int.not_le] at hc4
                                          first
                                            | (exfalso; first | omega | (simp at *; done) | (simp at *; omega))
                                            | (
                                              refine SW.seq_k ?_
                                              intro K25 hK25
                                              refine SW.region _ _ _ _ ?_
                                              refine RL.step (Gd.none rfl) rfl rfl ?_
                                              refine NV.pure T (by conv => lhs; whnf; arg 1; whnf) ?_
                                              refine RL.nil _ _ _ _ ?_
                                              refine hK25 _ _ _ ?_
                                              refine SW.ret ?_
                                              refine retQ.ret (H' := H) (RVs.tmp (by conv => lhs; whnf) RVs.nil) (fun w hw => Sat.sub (by repeat first | exact List.Sublist.refl _ | apply List.Sublist.cons_cons | apply List.Sublist.cons) hw) ?_
                                              clear hK25 K25 hK24 K24 hK23 K23 hK19 K19 hK18 K18 hK17 K17 hK16 K16 hK15 K15 hK13 K13 hK12 K12 hK11 K11 hK10 K10 hK9 K9 hK8 K8 hK5 K5 hK4 K4 hK3 K3 hK2 K2 hK1 K1 hK0 K0
                                              exact ⟨rfl, rfl⟩
                                              )
                                        · try simp only [decide_eq_true_eq, decide_eq_false_iff_not, Bool.not_eq_true', Bool.not_eq_false', Int.not_lt, Int.not_le] at hc4
                                          first
                                            | (exfalso; first | omega | (simp at *; done) | (simp at *; omega))
                                            | (
                                              refine SW.skip ?_
                                              refine hK23 _ _ _ ?_
                                              refine SW.seq_k ?_
                                              intro K26 hK26
                                              refine SW.draw [(62, 0), (63, 1), (64, 2), (65, 3), (61, 4), (66, 5), (67, 6), (10, 7), (11, 9)] [[], [], [1], [0, 2, 1], [3, 0, 2, 1], [4, 3, 0, 2, 1], [4, 3, 0, 2, 1], [], [7, 5, 4, 3, 0, 2, 1], [6, 4, 3, 0, 2, 1, 8, 7, 5]] mixed (by kernel_rfl) (by kernel_rfl) ?_
                                              refine RD.q rfl rfl (Gd.none rfl) (by first | exact QV.load_var1 T rfl rfl rfl rfl (by repeat first | exact At.head _ _ | apply At.tail) rfl | exact QV.load_varN T rfl rfl rfl rfl rfl (by repeat first | exact At.head _ _ | apply At.tail) (by exact (rfl : _ = [_, _, _])) rfl | exact QV.load_elem T rfl rfl rfl rfl (by assumption) (by first | exact map_get _ _ (by omega) | assumption)) ?_
                                              refine RD.q rfl rfl (Gd.none rfl) (pev_sound T (by conv => lhs; whnf; arg 1; whnf)) ?_
                                              refine RD.q rfl rfl (Gd.none rfl) (QV.slice (l := 1) (h := k + 1) T rfl rfl rfl rfl ⟨_, rfl⟩ rfl (by omega) hcap) ?_
                                              apply RD.share
                                              · intro hsh0
                                                refine RD.many rfl rfl (.cons ?_ (.cons ?_ .nil))
                                                · skip
                                                  refine RD1.nv rfl (Gd.none rfl) ?_
                                                  refine NV.sat (fun hs => ?_) (fun c hc => by cases hc)
                                                  refine NV.call rfl rfl rfl fun15 rfl rfl (aft_some a b 128 y _ _ _ (List.replicate (k - 1) 1 ++ [2]) (((Rd.row (by repeat first | exact At.head _ _ | apply At.tail) hs).sub (l := 1) (h := k + 1) (by omega) (by omega)).as (heal_drop k (by omega))) (by simp; omega) (by omega) ha ha2 hb hb2 (by rw [aft_heal (k - 1) ha hoff (by omega), hy, show a - ((k - 1 : Nat) : Int) = 128 by omega])) ?_
                                                  rintro _ _ ⟨rfl, rfl⟩
                                                  refine ⟨Stab.nil, ?_⟩
                                                  refine RD.q rfl rfl (Gd.none rfl) (pev_sound T (by conv => lhs; whnf; arg 1; whnf)) ?_
                                                  refine RD.q rfl rfl (Gd.none rfl) (pev_sound T (by conv => lhs; whnf; arg 1; whnf)) ?_
                                                  refine RD.q rfl rfl (Gd.none rfl) (pev_sound T (by conv => lhs; whnf; arg 1; whnf)) ?_
                                                  refine RD.nv rfl rfl rfl (Gd.none rfl) ?_
                                                  refine NV.alloc T rfl rfl rfl (by exact (rfl : _ = [_, _, _])) ?_
                                                  intro b10_5
                                                  refine ⟨(Stab.cons rfl (Gd.none rfl) (pev_sound T rfl) (Stab.cons rfl (Gd.none rfl) (pev_sound T rfl) (Stab.cons rfl (Gd.none rfl) (pev_sound T rfl) (Stab.cons rfl (Gd.none rfl) (QV.slice (l := 1) (h := k + 1) T rfl rfl rfl rfl ⟨_, rfl⟩ rfl (by omega) hcap) (Stab.cons rfl (Gd.none rfl) (pev_sound T rfl) (Stab.cons rfl (Gd.none rfl) (by first | exact QV.load_var1 T rfl rfl rfl rfl (by repeat first | exact At.head _ _ | apply At.tail) rfl | exact QV.load_varN T rfl rfl rfl rfl rfl (by repeat first | exact At.head _ _ | apply At.tail) rfl rfl | exact QV.load_elem T rfl rfl rfl rfl (by assumption) (by first | exact map_get _ _ (by omega) | assumption)) Stab.nil)))))), ?_⟩
                                                  refine RD.nv rfl rfl rfl (Gd.none rfl) ?_
                                                  first
                                                    | refine NV.store_var1 T rfl rfl rfl rfl (by conv => lhs; whnf) rfl (by repeat first | exact At.head _ _ | apply At.tail) rfl (by exact (rfl : _ = [_, _, _])) ?_
                                                    | refine NV.store_var T rfl rfl rfl (by exact (rfl : _ = [_, _, _])) rfl rfl (by repeat first | exact At.head _ _ | apply At.tail) (Nat.le_of_ble_eq_true rfl) (by exact (rfl : _ = [_, _, _])) ?_
                                                    | refine NV.store_elem T rfl rfl rfl rfl (by conv => lhs; whnf) rfl (by repeat first | exact At.head _ _ | apply At.tail) (by omega) ?_
                                                  refine ⟨(Stab.cons rfl (Gd.none rfl) (pev_sound T rfl) Stab.nil), ?_⟩
                                                  refine RD.q rfl rfl (Gd.none rfl) (pev_sound T (by conv => lhs; whnf; arg 1; whnf)) ?_
                                                  refine RD.k rfl rfl ?_
                                                  exact hsh0 b10_5
                                                · skip
                                                  refine RD1.nv rfl (Gd.none rfl) ?_
                                                  refine NV.alloc T rfl rfl rfl (by exact (rfl : _ = [_, _, _])) ?_
                                                  intro b10_5
                                                  refine ⟨(Stab.cons rfl (Gd.none rfl) (QV.slice (l := 1) (h := k + 1) T rfl rfl rfl rfl ⟨_, rfl⟩ rfl (by omega) hcap) (Stab.cons rfl (Gd.none rfl) (pev_sound T rfl) (Stab.cons rfl (Gd.none rfl) (by first | exact QV.load_var1 T rfl rfl rfl rfl (by repeat first | exact At.head _ _ | apply At.tail) rfl | exact QV.load_varN T rfl rfl rfl rfl rfl (by repeat first | exact At.head _ _ | apply At.tail) rfl rfl | exact QV.load_elem T rfl rfl rfl rfl (by assumption) (by first | exact map_get _ _ (by omega) | assumption)) Stab.nil))), ?_⟩
                                                  refine RD.nv rfl rfl rfl (Gd.none rfl) ?_
                                                  refine NV.sat (fun hs => ?_) (fun c hc => by cases hc)
                                                  refine NV.call rfl rfl rfl fun15 rfl rfl (aft_some a b 128 y _ _ _ (List.replicate (k - 1) 1 ++ [2]) (((Rd.row (by repeat first | exact At.head _ _ | apply At.tail) hs).sub (l := 1) (h := k + 1) (by omega) (by omega)).as (heal_drop k (by omega))) (by simp; omega) (by omega) ha ha2 hb hb2 (by rw [aft_heal (k - 1) ha hoff (by omega), hy, show a - ((k - 1 : Nat) : Int) = 128 by omega])) ?_
                                                  rintro _ _ ⟨rfl, rfl⟩
                                                  refine ⟨Stab.nil, ?_⟩
                                                  refine RD.q rfl rfl (Gd.none rfl) (pev_sound T (by conv => lhs; whnf; arg 1; whnf)) ?_
                                                  refine RD.q rfl rfl (Gd.none rfl) (pev_sound T (by conv => lhs; whnf; arg 1; whnf)) ?_
                                                  refine RD.q rfl rfl (Gd.none rfl) (pev_sound T (by conv => lhs; whnf; arg 1; whnf)) ?_
                                                  refine RD.nv rfl rfl rfl (Gd.none rfl) ?_
                                                  first
                                                    | refine NV.store_var1 T rfl rfl rfl rfl (by conv => lhs; whnf) rfl (by repeat first | exact At.head _ _ | apply At.tail) rfl (by exact (rfl : _ = [_, _, _])) ?_
                                                    | refine NV.store_var T rfl rfl rfl (by exact (rfl : _ = [_, _, _])) rfl rfl (by repeat first | exact At.head _ _ | apply At.tail) (Nat.le_of_ble_eq_true rfl) (by exact (rfl : _ = [_, _, _])) ?_
                                                    | refine NV.store_elem T rfl rfl rfl rfl (by conv => lhs; whnf) rfl (by repeat first | exact At.head _ _ | apply At.tail) (by omega) ?_
                                                  refine ⟨(Stab.cons rfl (Gd.none rfl) (pev_sound T rfl) Stab.nil), ?_⟩
                                                  refine RD.q rfl rfl (Gd.none rfl) (pev_sound T (by conv => lhs; whnf; arg 1; whnf)) ?_
                                                  refine RD.k rfl rfl ?_
                                                  exact hsh0 b10_5
                                              · intro b10_5
                                                refine hK26 _ _ _ ?_
                                                refine SW.seq_k ?_
                                                intro K27 hK27
                                                refine SW.region _ _ _ _ ?_
                                                refine RL.step (Gd.none rfl) rfl rfl ?_
                                                first
                                                  | refine NV.load_var1 T rfl rfl rfl rfl (by repeat first | exact At.head _ _ | apply At.tail) rfl ?_
                                                  | refine NV.load_varN T rfl rfl rfl rfl rfl (by repeat first | exact At.head _ _ | apply At.tail) (by exact (rfl : _ = [_, _, _])) rfl ?_
                                                  | refine NV.load_elem T rfl rfl rfl rfl (by assumption) (by first | exact map_get _ _ (by omega) | assumption) ?_
                                                refine RL.step (Gd.none rfl) rfl rfl ?_
                                                refine NV.call rfl rfl rfl fun9 rfl rfl (pmode1 128 y (by omega) (by omega) (by omega) (by omega)) ?_
                                                rintro _ _ ⟨rfl, rfl⟩
                                                refine RL.step (Gd.none rfl) rfl rfl ?_
                                                refine NV.pure T (by conv => lhs; whnf; arg 1; whnf) ?_
                                                refine RL.step (Gd.none rfl) rfl rfl ?_
                                                refine NV.pure T (by conv => lhs; whnf; arg 1; whnf) ?_
                                                refine RL.step (Gd.none rfl) rfl rfl ?_
                                                refine NV.pure T (by conv => lhs; whnf; arg 1; whnf) ?_
                                                refine RL.step (Gd.none rfl) rfl rfl ?_
                                                refine NV.pure T (by conv => lhs; whnf; arg 1; whnf) ?_
                                                refine RL.step (Gd.none rfl) rfl rfl ?_
                                                refine NV.pure T (by conv => lhs; whnf; arg 1; whnf) ?_
                                                refine RL.nil _ _ _ _ ?_
                                                refine hK27 _ _ _ ?_
                                                refine SW.seq_k ?_
                                                intro K28 hK28
                                                refine SW.region _ _ _ _ ?_
                                                refine RL.step (Gd.none rfl) rfl rfl ?_
                                                refine NV.pure T (by conv => lhs; whnf; arg 1; whnf) ?_
                                                refine RL.step (Gd.none rfl) rfl rfl ?_
                                                refine NV.pure T (by conv => lhs; whnf; arg 1; whnf) ?_
                                                refine RL.step (Gd.none rfl) rfl rfl ?_
                                                refine NV.pure T (by conv => lhs; whnf; arg 1; whnf) ?_
                                                refine RL.split 75 rfl (fun hs3 => ?_) (fun hs3 => ?_)
                                                · try simp only [decide_eq_true_eq, decide_eq_false_iff_not, Bool.not_eq_true', Bool.not_eq_false', Int.not_lt, Int.not_le] at hs3
                                                  first
                                                    | (exfalso; first | omega | (simp at *; done) | (simp at *; omega))
                                                    | (
                                                      refine RL.step (Gd.yes rfl rfl) rfl rfl ?_
                                                      refine NV.pure T (by conv => lhs; whnf; arg 1; whnf) ?_
                                                      refine RL.step (Gd.yes rfl rfl) rfl rfl ?_
                                                      refine NV.pure T (by conv => lhs; whnf; arg 1; whnf) ?_
                                                      refine RL.step (Gd.none rfl) rfl rfl ?_
                                                      refine NV.pure T (by conv => lhs; whnf; arg 1; whnf) ?_
                                                      refine RL.step (Gd.none rfl) rfl rfl ?_
                                                      refine NV.pure T (by conv => lhs; whnf; arg 1; whnf) ?_
                                                      refine RL.split 79 rfl (fun hs4 => ?_) (fun hs4 => ?_)
                                                      · try simp only [decide_eq_true_eq, decide_eq_false_iff_not, Bool.not_eq_true', Bool.not_eq_false', Int.not_lt, Int.not_le] at hs4
                                                        first
                                                          | (exfalso; first | omega | (simp at *; done) | (simp at *; omega))
                                                          | (
                                                            refine RL.step (Gd.yes rfl rfl) rfl rfl ?_
                                                            refine NV.pure T (by conv => lhs; whnf; arg 1; whnf) ?_
                                                            refine RL.step (Gd.yes rfl rfl) rfl rfl ?_
                                                            refine NV.pure T (by conv => lhs; whnf; arg 1; whnf) ?_
                                                            refine RL.step (Gd.none rfl) rfl rfl ?_
                                                            refine NV.pure T (by conv => lhs; whnf; arg 1; whnf) ?_
                                                            refine RL.step (Gd.none rfl) rfl rfl ?_
                                                            refine NV.pure T (by conv => lhs; whnf; arg 1; whnf) ?_
                                                            refine RL.nil _ _ _ _ ?_
                                                            refine hK28 _ _ _ ?_
                                                            refine SW.ret ?_
                                                            refine retQ.ret (H' := H) (RVs.tmp (by conv => lhs; whnf) RVs.nil) (fun w hw => Sat.sub (by repeat first | exact List.Sublist.refl _ | apply List.Sublist.cons_cons | apply List.Sublist.cons) hw) ?_
                                                            clear hK28 K28 hK27 K27 hK26 K26 hK24 K24 hK23 K23 hK19 K19 hK18 K18 hK17 K17 hK16 K16 hK15 K15 hK13 K13 hK12 K12 hK11 K11 hK10 K10 hK9 K9 hK8 K8 hK5 K5 hK4 K4 hK3 K3 hK2 K2 hK1 K1 hK0 K0
                                                            exact ⟨rfl, rfl⟩
                                                            )
                                                      · try simp only [decide_eq_true_eq, decide_eq_false_iff_not, Bool.not_eq_true', Bool.not_eq_false', Int.not_lt, Int.not_le] at hs4
                                                        first
                                                          | (exfalso; first | omega | (simp at *; done) | (simp at *; omega))
                                                          | (
                                                            refine RL.guard_no rfl rfl rfl ?_
                                                            refine RL.guard_no rfl rfl rfl ?_
                                                            refine RL.step (Gd.none rfl) rfl rfl ?_
                                                            refine NV.pure T (by conv => lhs; whnf; arg 1; whnf) ?_
                                                            refine RL.step (Gd.none rfl) rfl rfl ?_
                                                            refine NV.pure T (by conv => lhs; whnf; arg 1; whnf) ?_
                                                            refine RL.nil _ _ _ _ ?_
                                                            refine hK28 _ _ _ ?_
                                                            refine SW.ret ?_
                                                            refine retQ.ret (H' := H) (RVs.tmp (by conv => lhs; whnf) RVs.nil) (fun w hw => Sat.sub (by repeat first | exact List.Sublist.refl _ | apply List.Sublist.cons_cons | apply List.Sublist.cons) hw) ?_
                                                            clear hK28 K28 hK27 K27 hK26 K26 hK24 K24 hK23 K23 hK19 K19 hK18 K18 hK17 K17 hK16 K16 hK15 K15 hK13 K13 hK12 K12 hK11 K11 hK10 K10 hK9 K9 hK8 K8 hK5 K5 hK4 K4 hK3 K3 hK2 K2 hK1 K1 hK0 K0
                                                            exact ⟨rfl, rfl⟩
                                                            )
                                                      )
                                                · try simp only [decide_eq_true_eq, decide_eq_false_iff_not, Bool.not_eq_true', Bool.not_eq_false', Int.not_lt, Int.not_le] at hs3
                                                  first
                                                    | (exfalso; first | omega | (simp at *; done) | (simp at *; omega))
                                                    | (
                                                      refine RL.guard_no rfl rfl rfl ?_
                                                      refine RL.guard_no rfl rfl rfl ?_
                                                      refine RL.step (Gd.none rfl) rfl rfl ?_
                                                      refine NV.pure T (by conv => lhs; whnf; arg 1; whnf) ?_
                                                      refine RL.step (Gd.none rfl) rfl rfl ?_
                                                      refine NV.pure T (by conv => lhs; whnf; arg 1; whnf) ?_
                                                      refine RL.guard_no rfl rfl rfl ?_
                                                      refine RL.guard_no rfl rfl rfl ?_
                                                      refine RL.step (Gd.none rfl) rfl rfl ?_
                                                      refine NV.pure T (by conv => lhs; whnf; arg 1; whnf) ?_
                                                      refine RL.step (Gd.none rfl) rfl rfl ?_
                                                      refine NV.pure T (by conv => lhs; whnf; arg 1; whnf) ?_
                                                      refine RL.nil _ _ _ _ ?_
                                                      refine hK28 _ _ _ ?_
                                                      refine SW.ret ?_
                                                      refine retQ.ret (H' := H) (RVs.tmp (by conv => lhs; whnf) RVs.nil) (fun w hw => Sat.sub (by repeat first | exact List.Sublist.refl _ | apply List.Sublist.cons_cons | apply List.Sublist.cons) hw) ?_
                                                      clear hK28 K28 hK27 K27 hK26 K26 hK24 K24 hK23 K23 hK19 K19 hK18 K18 hK17 K17 hK16 K16 hK15 K15 hK13 K13 hK12 K12 hK11 K11 hK10 K10 hK9 K9 hK8 K8 hK5 K5 hK4 K4 hK3 K3 hK2 K2 hK1 K1 hK0 K0
                                                      exact ⟨rfl, rfl⟩
                                                      )
                                              )
                                        )
                                  )
                            )
                      )
              )
        )
theorem heals_off {w0 : World} {H : List Chunk} (a b : Int) (hoff : 255 < a) (ha : 0 ≤ a) (ha2 : a ≤ 263) (hb : 0 ≤ b) (hb2 : b ≤ 255) : SC Try.prog w0 7 #[sv a b] H (fun v H' => v = .bool true ∧ H' = H) := by
  refine SC.enter Try.func7 rfl (Nat.le_of_ble_eq_true rfl) ?_
  refine SW.seq_k ?_
  intro K0 hK0
  refine SW.region _ _ _ _ ?_
  refine RL.step (Gd.none rfl) rfl rfl ?_
  refine NV.box rfl (by exact (rfl : _ = [_, _, _])) ?_
  intro b1_0
  refine RL.step (Gd.none rfl) rfl rfl ?_
  refine NV.pure T (by conv => lhs; whnf; arg 1; whnf) ?_
  refine RL.nil _ _ _ _ ?_
  refine hK0 _ _ _ ?_
  refine SW.seq_k ?_
  intro K1 hK1
  refine SW.seq_k ?_
  intro K2 hK2
  refine SW.region _ _ _ _ ?_
  refine RL.step (Gd.none rfl) rfl rfl ?_
  refine NV.call rfl rfl rfl fun8 rfl rfl (alive) ?_
  rintro _ _ ⟨rfl, rfl⟩
  refine RL.step (Gd.none rfl) rfl rfl ?_
  refine NV.pure T (by conv => lhs; whnf; arg 1; whnf) ?_
  refine RL.nil _ _ _ _ ?_
  refine hK2 _ _ _ ?_
  refine SW.cond_f rfl ?_
  refine SW.skip ?_
  refine hK1 _ _ _ ?_
  refine SW.seq_k ?_
  intro K3 hK3
  refine SW.region _ _ _ _ ?_
  refine RL.step (Gd.none rfl) rfl rfl ?_
  first
    | refine NV.load_var1 T rfl rfl rfl rfl (by repeat first | exact At.head _ _ | apply At.tail) rfl ?_
    | refine NV.load_varN T rfl rfl rfl rfl rfl (by repeat first | exact At.head _ _ | apply At.tail) (by exact (rfl : _ = [_, _, _])) rfl ?_
    | refine NV.load_elem T rfl rfl rfl rfl (by assumption) (by first | exact map_get _ _ (by omega) | assumption) ?_
  refine RL.step (Gd.none rfl) rfl rfl ?_
  refine NV.alloc T rfl rfl rfl (by exact (rfl : _ = [_, _, _])) ?_
  intro b3_1
  refine RL.step (Gd.none rfl) rfl rfl ?_
  first
    | refine NV.store_var1 T rfl rfl rfl rfl (by conv => lhs; whnf) rfl (by repeat first | exact At.head _ _ | apply At.tail) rfl (by exact (rfl : _ = [_, _, _])) ?_
    | refine NV.store_var T rfl rfl rfl (by exact (rfl : _ = [_, _, _])) rfl rfl (by repeat first | exact At.head _ _ | apply At.tail) (Nat.le_of_ble_eq_true rfl) (by exact (rfl : _ = [_, _, _])) ?_
    | refine NV.store_elem T rfl rfl rfl rfl (by conv => lhs; whnf) rfl (by repeat first | exact At.head _ _ | apply At.tail) (by omega) ?_
  refine RL.nil _ _ _ _ ?_
  refine hK3 _ _ _ ?_
  refine SW.seq_k ?_
  intro K4 hK4
  refine SW.seq_k ?_
  intro K5 hK5
  refine SW.region _ _ _ _ ?_
  refine RL.step (Gd.none rfl) rfl rfl ?_
  first
    | refine NV.load_var1 T rfl rfl rfl rfl (by repeat first | exact At.head _ _ | apply At.tail) rfl ?_
    | refine NV.load_varN T rfl rfl rfl rfl rfl (by repeat first | exact At.head _ _ | apply At.tail) (by exact (rfl : _ = [_, _, _])) rfl ?_
    | refine NV.load_elem T rfl rfl rfl rfl (by assumption) (by first | exact map_get _ _ (by omega) | assumption) ?_
  refine RL.step (Gd.none rfl) rfl rfl ?_
  refine NV.call rfl rfl rfl fun13 rfl rfl (check_ok a b ha ha2 hb hb2) ?_
  rintro _ _ ⟨rfl, rfl⟩
  refine RL.step (Gd.none rfl) rfl rfl ?_
  refine NV.pure T (by conv => lhs; whnf; arg 1; whnf) ?_
  refine RL.step (Gd.none rfl) rfl rfl ?_
  refine NV.pure T (by conv => lhs; whnf; arg 1; whnf) ?_
  refine RL.split 20 rfl (fun hs0 => ?_) (fun hs0 => ?_)
  · try simp only [decide_eq_true_eq, decide_eq_false_iff_not, Bool.not_eq_true', Bool.not_eq_false', Int.not_lt, Int.not_le] at hs0
    refine RL.guard_no rfl rfl rfl ?_
    refine RL.guard_no rfl rfl rfl ?_
    refine RL.step (Gd.none rfl) rfl rfl ?_
    refine NV.pure T (by conv => lhs; whnf; arg 1; whnf) ?_
    refine RL.nil _ _ _ _ ?_
    refine hK5 _ _ _ ?_
    refine SW.cond_t rfl ?_
    refine SW.seq_k ?_
    intro K6 hK6
    refine SW.region _ _ _ _ ?_
    refine RL.step (Gd.none rfl) rfl rfl ?_
    refine NV.pure T (by conv => lhs; whnf; arg 1; whnf) ?_
    refine RL.nil _ _ _ _ ?_
    refine hK6 _ _ _ ?_
    refine SW.ret ?_
    refine retQ.ret (H' := H) (RVs.tmp (by conv => lhs; whnf) RVs.nil) (fun w hw => Sat.sub (by repeat first | exact List.Sublist.refl _ | apply List.Sublist.cons_cons | apply List.Sublist.cons) hw) ?_
    clear hK6 K6 hK5 K5 hK4 K4 hK3 K3 hK2 K2 hK1 K1 hK0 K0
    exact ⟨rfl, rfl⟩
  · try simp only [decide_eq_true_eq, decide_eq_false_iff_not, Bool.not_eq_true', Bool.not_eq_false', Int.not_lt, Int.not_le] at hs0
    refine RL.step (Gd.yes rfl rfl) rfl rfl ?_
    refine NV.pure T (by conv => lhs; whnf; arg 1; whnf) ?_
    refine RL.step (Gd.yes rfl rfl) rfl rfl ?_
    first
      | refine NV.load_var1 T rfl rfl rfl rfl (by repeat first | exact At.head _ _ | apply At.tail) rfl ?_
      | refine NV.load_varN T rfl rfl rfl rfl rfl (by repeat first | exact At.head _ _ | apply At.tail) (by exact (rfl : _ = [_])) rfl ?_
      | refine NV.load_elem T rfl rfl rfl rfl (by assumption) (by first | exact map_get _ _ (by omega) | assumption) ?_
    refine RL.step (Gd.none rfl) rfl rfl ?_
    refine NV.pure T (by conv => lhs; whnf; arg 1; whnf) ?_
    refine RL.nil _ _ _ _ ?_
    refine hK5 _ _ _ ?_
    refine SW.cond rfl (fun hc1 => ?_) (fun hc1 => ?_)
    · try simp only [decide_eq_true_eq, decide_eq_false_iff_not, Bool.not_eq_true', Bool.not_eq_false', Int.not_lt, Int.not_le] at hc1
      refine SW.seq_k ?_
      intro K7 hK7
      refine SW.region _ _ _ _ ?_
      refine RL.step (Gd.none rfl) rfl rfl ?_
      refine NV.pure T (by conv => lhs; whnf; arg 1; whnf) ?_
      refine RL.nil _ _ _ _ ?_
      refine hK7 _ _ _ ?_
      refine SW.ret ?_
      refine retQ.ret (H' := H) (RVs.tmp (by conv => lhs; whnf) RVs.nil) (fun w hw => Sat.sub (by repeat first | exact List.Sublist.refl _ | apply List.Sublist.cons_cons | apply List.Sublist.cons) hw) ?_
      clear hK7 K7 hK5 K5 hK4 K4 hK3 K3 hK2 K2 hK1 K1 hK0 K0
      exact ⟨rfl, rfl⟩
    · try simp only [decide_eq_true_eq, decide_eq_false_iff_not, Bool.not_eq_true', Bool.not_eq_false', Int.not_lt, Int.not_le] at hc1
      exfalso; omega
theorem heals_bad {w0 : World} {H : List Chunk} (a b : Int) (c : Bool) (hbad : okS a b c = false) : SC Try.prog w0 7 #[.agg #[.int .i64 a, .int .i64 b, .bool c]] H (fun v H' => v = .bool true ∧ H' = H) := by
  refine SC.enter Try.func7 rfl (Nat.le_of_ble_eq_true rfl) ?_
  refine SW.seq_k ?_
  intro K0 hK0
  refine SW.region _ _ _ _ ?_
  refine RL.step (Gd.none rfl) rfl rfl ?_
  refine NV.box rfl (by exact (rfl : _ = [_, _, _])) ?_
  intro b1_0
  refine RL.step (Gd.none rfl) rfl rfl ?_
  refine NV.pure T (by conv => lhs; whnf; arg 1; whnf) ?_
  refine RL.nil _ _ _ _ ?_
  refine hK0 _ _ _ ?_
  refine SW.seq_k ?_
  intro K1 hK1
  refine SW.seq_k ?_
  intro K2 hK2
  refine SW.region _ _ _ _ ?_
  refine RL.step (Gd.none rfl) rfl rfl ?_
  refine NV.call rfl rfl rfl fun8 rfl rfl (alive) ?_
  rintro _ _ ⟨rfl, rfl⟩
  refine RL.step (Gd.none rfl) rfl rfl ?_
  refine NV.pure T (by conv => lhs; whnf; arg 1; whnf) ?_
  refine RL.nil _ _ _ _ ?_
  refine hK2 _ _ _ ?_
  refine SW.cond_f rfl ?_
  refine SW.skip ?_
  refine hK1 _ _ _ ?_
  refine SW.seq_k ?_
  intro K3 hK3
  refine SW.region _ _ _ _ ?_
  refine RL.step (Gd.none rfl) rfl rfl ?_
  first
    | refine NV.load_var1 T rfl rfl rfl rfl (by repeat first | exact At.head _ _ | apply At.tail) rfl ?_
    | refine NV.load_varN T rfl rfl rfl rfl rfl (by repeat first | exact At.head _ _ | apply At.tail) (by exact (rfl : _ = [_, _, _])) rfl ?_
    | refine NV.load_elem T rfl rfl rfl rfl (by assumption) (by first | exact map_get _ _ (by omega) | assumption) ?_
  refine RL.step (Gd.none rfl) rfl rfl ?_
  refine NV.alloc T rfl rfl rfl (by exact (rfl : _ = [_, _, _])) ?_
  intro b3_1
  refine RL.step (Gd.none rfl) rfl rfl ?_
  first
    | refine NV.store_var1 T rfl rfl rfl rfl (by conv => lhs; whnf) rfl (by repeat first | exact At.head _ _ | apply At.tail) rfl (by exact (rfl : _ = [_, _, _])) ?_
    | refine NV.store_var T rfl rfl rfl (by exact (rfl : _ = [_, _, _])) rfl rfl (by repeat first | exact At.head _ _ | apply At.tail) (Nat.le_of_ble_eq_true rfl) (by exact (rfl : _ = [_, _, _])) ?_
    | refine NV.store_elem T rfl rfl rfl rfl (by conv => lhs; whnf) rfl (by repeat first | exact At.head _ _ | apply At.tail) (by omega) ?_
  refine RL.nil _ _ _ _ ?_
  refine hK3 _ _ _ ?_
  refine SW.seq_k ?_
  intro K4 hK4
  refine SW.seq_k ?_
  intro K5 hK5
  refine SW.region _ _ _ _ ?_
  refine RL.step (Gd.none rfl) rfl rfl ?_
  first
    | refine NV.load_var1 T rfl rfl rfl rfl (by repeat first | exact At.head _ _ | apply At.tail) rfl ?_
    | refine NV.load_varN T rfl rfl rfl rfl rfl (by repeat first | exact At.head _ _ | apply At.tail) (by exact (rfl : _ = [_, _, _])) rfl ?_
    | refine NV.load_elem T rfl rfl rfl rfl (by assumption) (by first | exact map_get _ _ (by omega) | assumption) ?_
  refine RL.step (Gd.none rfl) rfl rfl ?_
  refine NV.call rfl rfl rfl fun13 rfl rfl (check_bad a b c hbad) ?_
  rintro _ _ ⟨rfl, rfl⟩
  refine RL.step (Gd.none rfl) rfl rfl ?_
  refine NV.pure T (by conv => lhs; whnf; arg 1; whnf) ?_
  refine RL.step (Gd.none rfl) rfl rfl ?_
  refine NV.pure T (by conv => lhs; whnf; arg 1; whnf) ?_
  refine RL.split 20 rfl (fun hs0 => ?_) (fun hs0 => ?_)
  · try simp only [decide_eq_true_eq, decide_eq_false_iff_not, Bool.not_eq_true', Bool.not_eq_false', Int.not_lt, Int.not_le] at hs0
    refine RL.guard_no rfl rfl rfl ?_
    refine RL.guard_no rfl rfl rfl ?_
    refine RL.step (Gd.none rfl) rfl rfl ?_
    refine NV.pure T (by conv => lhs; whnf; arg 1; whnf) ?_
    refine RL.nil _ _ _ _ ?_
    refine hK5 _ _ _ ?_
    refine SW.cond_t rfl ?_
    refine SW.seq_k ?_
    intro K6 hK6
    refine SW.region _ _ _ _ ?_
    refine RL.step (Gd.none rfl) rfl rfl ?_
    refine NV.pure T (by conv => lhs; whnf; arg 1; whnf) ?_
    refine RL.nil _ _ _ _ ?_
    refine hK6 _ _ _ ?_
    refine SW.ret ?_
    refine retQ.ret (H' := H) (RVs.tmp (by conv => lhs; whnf) RVs.nil) (fun w hw => Sat.sub (by repeat first | exact List.Sublist.refl _ | apply List.Sublist.cons_cons | apply List.Sublist.cons) hw) ?_
    clear hK6 K6 hK5 K5 hK4 K4 hK3 K3 hK2 K2 hK1 K1 hK0 K0
    exact ⟨rfl, rfl⟩
  · try simp only [decide_eq_true_eq, decide_eq_false_iff_not, Bool.not_eq_true', Bool.not_eq_false', Int.not_lt, Int.not_le] at hs0
    exfalso; first | omega | (simp at hs0; done)
theorem heals {w0 : World} {H : List Chunk} (a b : Int) (c : Bool) : SC Try.prog w0 7 #[.agg #[.int .i64 a, .int .i64 b, .bool c]] H (fun v H' => v = .bool true ∧ H' = H) := by
  cases h : okS a b c with
  | false => exact heals_bad a b c h
  | true =>
    obtain ⟨h1, h2, h3, h4, rfl⟩ := okS_true h
    by_cases ho : 255 < a
    · exact heals_off a b ho h1 h2 h3 h4
    · exact heals_ok a b (max 0 (a - 127)).toNat (by omega) (by omega) _ _ rfl rfl (by omega) (by omega) (by split <;> omega) (by split <;> omega) h1 h2 h3 h4
end Go.Proofs.Ytnlifdnfkmlfbaa.M
