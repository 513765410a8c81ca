import Derived.Test.YtdcahmifalabnaaProg
import Derived.Test.YtdcahmifalabnaaFC4
set_option linter.unusedVariables false
set_option linter.unusedSimpArgs false
namespace Go.Proofs.Ytdcahmifalabnaa.M
open Go Go.Sep Go.Proofs
set_option maxRecDepth 10000
set_option maxHeartbeats 2000000
theorem tally_neg {w0 : World} {H : List Chunk} (m : Int) (h : m < 0) : SC Try.prog w0 19 #[.int .i64 m] H (fun v H' => v = .tuple #[.slice none 0 0, .int .i64 2] ∧ H' = H) := by
 refine SC.enter Try.func19 rfl (Nat.le_of_ble_eq_true rfl) ?_
 refine SW.seq_k ?_
 intro K0 hK0
 refine SW.region _ _ _ _ ?_
 refine RL.st ?_
 refine NV.p T ?_
 refine RL.st ?_
 refine NV.p T ?_
 refine RL.nil _ _ _ _ ?_
 refine hK0 _ _ _ ?_
 refine SW.seq_k ?_
 intro K1 hK1
 refine SW.seq_k ?_
 intro K2 hK2
 refine SW.region _ _ _ _ ?_
 refine RL.st ?_
 refine NV.p T ?_
 refine RL.st ?_
 refine NV.p T ?_
 refine RL.nil _ _ _ _ ?_
 refine hK2 _ _ _ ?_
 refine SW.cond rfl (fun hc0 => ?_) (fun hc0 => ?_)
 ·try simp only [decide_eq_true_eq, decide_eq_false_iff_not, Bool.not_eq_true', Bool.not_eq_false', Int.not_lt, Int.not_le, Int.toNat_natCast] at hc0
  first
   | (exfalso; clear hK2 K2; clear hK1 K1; clear hK0 K0; first | omega | contradiction)
   | (
    refine SW.seq_k ?_
    intro K3 hK3
    refine SW.region _ _ _ _ ?_
    refine RL.st ?_
    refine NV.p T ?_
    refine RL.st ?_
    refine NV.p T ?_
    refine RL.nil _ _ _ _ ?_
    refine hK3 _ _ _ ?_
    refine SW.ret ?_
    refine retQ.ret (H' := H) (RVs.tmp (by conv => lhs; whnf) (RVs.tmp (by conv => lhs; whnf) RVs.nil)) (fun w hw => Sat.sub (by repeat first | exact List.Sublist.refl _ | apply List.Sublist.cons_cons | apply List.Sublist.cons | exact List.sublist_append_right _ _ | refine List.Sublist.trans ?_ (List.sublist_append_right _ _)) hw) ?_
    clear hK3 K3 hK2 K2 hK1 K1 hK0 K0
    exact ⟨rfl, rfl⟩
    )
 ·try simp only [decide_eq_true_eq, decide_eq_false_iff_not, Bool.not_eq_true', Bool.not_eq_false', Int.not_lt, Int.not_le, Int.toNat_natCast] at hc0
  exfalso; clear hK2 K2; clear hK1 K1; clear hK0 K0; first | omega | contradiction
theorem rtally_neg {w0 : World} {H : List Chunk} (m : Int) (h : m < 0) : SC Try.prog w0 20 #[.int .i64 m] H (fun v H' => v = .tuple #[.slice none 0 0, .int .i64 2] ∧ H' = H) := by
 refine SC.enter Try.func20 rfl (Nat.le_of_ble_eq_true rfl) ?_
 refine SW.seq_k ?_
 intro K0 hK0
 refine SW.region _ _ _ _ ?_
 refine RL.st ?_
 refine NV.p T ?_
 refine RL.st ?_
 refine NV.p T ?_
 refine RL.nil _ _ _ _ ?_
 refine hK0 _ _ _ ?_
 refine SW.seq_k ?_
 intro K1 hK1
 refine SW.seq_k ?_
 intro K2 hK2
 refine SW.region _ _ _ _ ?_
 refine RL.st ?_
 refine NV.p T ?_
 refine RL.st ?_
 refine NV.p T ?_
 refine RL.nil _ _ _ _ ?_
 refine hK2 _ _ _ ?_
 refine SW.cond rfl (fun hc0 => ?_) (fun hc0 => ?_)
 ·try simp only [decide_eq_true_eq, decide_eq_false_iff_not, Bool.not_eq_true', Bool.not_eq_false', Int.not_lt, Int.not_le, Int.toNat_natCast] at hc0
  first
   | (exfalso; clear hK2 K2; clear hK1 K1; clear hK0 K0; first | omega | contradiction)
   | (
    refine SW.seq_k ?_
    intro K3 hK3
    refine SW.region _ _ _ _ ?_
    refine RL.st ?_
    refine NV.p T ?_
    refine RL.st ?_
    refine NV.p T ?_
    refine RL.nil _ _ _ _ ?_
    refine hK3 _ _ _ ?_
    refine SW.ret ?_
    refine retQ.ret (H' := H) (RVs.tmp (by conv => lhs; whnf) (RVs.tmp (by conv => lhs; whnf) RVs.nil)) (fun w hw => Sat.sub (by repeat first | exact List.Sublist.refl _ | apply List.Sublist.cons_cons | apply List.Sublist.cons | exact List.sublist_append_right _ _ | refine List.Sublist.trans ?_ (List.sublist_append_right _ _)) hw) ?_
    clear hK3 K3 hK2 K2 hK1 K1 hK0 K0
    exact ⟨rfl, rfl⟩
    )
 ·try simp only [decide_eq_true_eq, decide_eq_false_iff_not, Bool.not_eq_true', Bool.not_eq_false', Int.not_lt, Int.not_le, Int.toNat_natCast] at hc0
  first
   | (exfalso; clear hK2 K2; clear hK1 K1; clear hK0 K0; first | omega | contradiction)
   | (
    refine SW.skip ?_
    refine hK1 _ _ _ ?_
    refine SW.seq_k ?_
    intro K4 hK4
    refine SW.region _ _ _ _ ?_
    refine RL.st ?_
    refine NV.buildSlice T rfl rfl rfl (Nat.le_of_ble_eq_true rfl) (by exact (rfl : _ = some [_, _, _, _])) ?_
    intro b6_0
    refine RL.st ?_
    refine NV.buildSlice T rfl rfl rfl (Nat.le_of_ble_eq_true rfl) (by exact (rfl : _ = some [_, _, _, _])) ?_
    intro b7_1
    refine RL.st ?_
    refine NV.buildSlice T rfl rfl rfl (Nat.le_of_ble_eq_true rfl) (by exact (rfl : _ = some [_, _, _, _])) ?_
    intro b8_2
    refine RL.st ?_
    refine NV.buildSlice T rfl rfl rfl (Nat.le_of_ble_eq_true rfl) (by exact (rfl : _ = some [_, _, _, _])) ?_
    intro b9_3
    refine RL.st ?_
    refine NV.buildSlice T rfl rfl rfl (Nat.le_of_ble_eq_true rfl) (by exact (rfl : _ = some [_, _, _, _])) ?_
    intro b10_4
    refine RL.st ?_
    refine NV.buildSlice T rfl rfl rfl (Nat.le_of_ble_eq_true rfl) (by exact (rfl : _ = some [_, _, _, _])) ?_
    intro b11_5
    refine RL.st ?_
    refine NV.buildSlice T rfl rfl rfl (Nat.le_of_ble_eq_true rfl) (by exact (rfl : _ = some [_, _, _, _])) ?_
    intro b12_6
    refine RL.st ?_
    refine NV.buildSlice T rfl rfl rfl (Nat.le_of_ble_eq_true rfl) (by exact (rfl : _ = some [_, _, _, _])) ?_
    intro b13_7
    refine RL.st ?_
    first | refine NV.buildc T rfl (rfl : _ = some [_, _, _, _, _, _, _, _]) ?_ | refine NV.pure T (rfl : _ = some (Value.agg #[_, _, _, _, _, _, _, _])) ?_
    refine RL.st ?_
    refine NV.p T ?_
    refine RL.st ?_
    refine NV.p T ?_
    refine RL.st ?_
    refine NV.p T ?_
    refine RL.st ?_
    refine NV.p T ?_
    refine RL.st ?_
    refine NV.p T ?_
    refine RL.nil _ _ _ _ ?_
    refine hK4 _ _ _ ?_
    refine SW.ret ?_
    refine retQ.ret (H' := H) (RVs.tmp (by conv => lhs; whnf) (RVs.tmp (by conv => lhs; whnf) RVs.nil)) (fun w hw => Sat.sub (by repeat first | exact List.Sublist.refl _ | apply List.Sublist.cons_cons | apply List.Sublist.cons | exact List.sublist_append_right _ _ | refine List.Sublist.trans ?_ (List.sublist_append_right _ _)) hw) ?_
    clear hK4 K4 hK2 K2 hK1 K1 hK0 K0
    exact ⟨rfl, rfl⟩
    )
theorem tally_0 {w0 : World} {H : List Chunk} (m : Int) (h : 0 ≤ m) (hm : m.tmod 8 = 0) : SC Try.prog w0 19 #[.int .i64 m] H (fun v H' => ∃ a c, v = .tuple #[.slice a 4 c, .int .i64 0] ∧ H' = .row a 4 c 5 1 ((tallyT 0).map (.int .u8)) :: H) := by
 refine SC.enter Try.func19 rfl (Nat.le_of_ble_eq_true rfl) ?_
 refine SW.seq_k ?_
 intro K0 hK0
 refine SW.region _ _ _ _ ?_
 refine RL.st ?_
 refine NV.p T ?_
 refine RL.st ?_
 refine NV.p T ?_
 refine RL.nil _ _ _ _ ?_
 refine hK0 _ _ _ ?_
 refine SW.seq_k ?_
 intro K1 hK1
 refine SW.seq_k ?_
 intro K2 hK2
 refine SW.region _ _ _ _ ?_
 refine RL.st ?_
 refine NV.p T ?_
 refine RL.st ?_
 refine NV.p T ?_
 refine RL.nil _ _ _ _ ?_
 refine hK2 _ _ _ ?_
 refine SW.cond rfl (fun hc0 => ?_) (fun hc0 => ?_)
 ·try simp only [decide_eq_true_eq, decide_eq_false_iff_not, Bool.not_eq_true', Bool.not_eq_false', Int.not_lt, Int.not_le, Int.toNat_natCast] at hc0
  first
   | (exfalso; clear hK2 K2; clear hK1 K1; clear hK0 K0; first | omega | contradiction)
   | (
    refine SW.seq_k ?_
    intro K3 hK3
    refine SW.region _ _ _ _ ?_
    refine RL.st ?_
    refine NV.p T ?_
    refine RL.st ?_
    refine NV.p T ?_
    refine RL.nil _ _ _ _ ?_
    refine hK3 _ _ _ ?_
    refine SW.ret ?_
    refine retQ.ret (RVs.tmp (by conv => lhs; whnf) (RVs.tmp (by conv => lhs; whnf) RVs.nil)) (fun w hw => hw) ?_
    clear hK3 K3 hK2 K2 hK1 K1 hK0 K0
    exact ⟨_, _, rfl, rfl⟩
    )
 ·try simp only [decide_eq_true_eq, decide_eq_false_iff_not, Bool.not_eq_true', Bool.not_eq_false', Int.not_lt, Int.not_le, Int.toNat_natCast] at hc0
  first
   | (exfalso; clear hK2 K2; clear hK1 K1; clear hK0 K0; first | omega | contradiction)
   | (
    refine SW.skip ?_
    refine hK1 _ _ _ ?_
    refine SW.seq_k ?_
    intro K4 hK4
    refine SW.region _ _ _ _ ?_
    refine RL.st ?_
    refine NV.p T ?_
    refine RL.st ?_
    refine NV.rem rfl rfl rfl (by omega) hm ?_
    refine RL.st ?_
    refine NV.p T ?_
    refine RL.nil _ _ _ _ ?_
    refine hK4 _ _ _ ?_
    refine SW.seq_k ?_
    intro K5 hK5
    refine SW.region _ _ _ _ ?_
    refine RL.st ?_
    refine NV.p T ?_
    refine RL.st ?_
    refine NV.p T ?_
    refine RL.st ?_
    refine NV.shift rfl rfl rfl (by omega) (.inr ⟨rfl, rfl⟩) ?_
    refine RL.st ?_
    refine NV.p T ?_
    refine RL.st ?_
    refine NV.p T ?_
    refine RL.nil _ _ _ _ ?_
    refine hK5 _ _ _ ?_
    refine SW.seq_k ?_
    intro K6 hK6
    refine SW.region _ _ _ _ ?_
    refine RL.st ?_
    refine NV.p T ?_
    refine RL.st ?_
    refine NV.p T ?_
    refine RL.st ?_
    refine NV.shift rfl rfl rfl (by omega) (.inr ⟨rfl, rfl⟩) ?_
    refine RL.st ?_
    refine NV.p T ?_
    refine RL.st ?_
    refine NV.p T ?_
    refine RL.st ?_
    refine NV.shift rfl rfl rfl (by omega) (.inr ⟨rfl, rfl⟩) ?_
    refine RL.st ?_
    refine NV.p T ?_
    refine RL.st ?_
    refine NV.p T ?_
    refine RL.st ?_
    refine NV.p T ?_
    refine RL.nil _ _ _ _ ?_
    refine hK6 _ _ _ ?_
    refine SW.seq_k ?_
    intro K7 hK7
    refine SW.region _ _ _ _ ?_
    refine RL.st ?_
    refine NV.p T ?_
    refine RL.st ?_
    refine NV.shift rfl rfl rfl (by omega) (.inl ⟨rfl, rfl⟩) ?_
    refine RL.st ?_
    refine NV.p T ?_
    refine RL.st ?_
    refine NV.p T ?_
    refine RL.st ?_
    refine NV.p T ?_
    refine RL.st ?_
    refine NV.call rfl rfl rfl fun33 rfl rfl (bput_ok 0 4 (by omega) (by omega) (by omega) (by decide)) ?_
    rintro _ _ ⟨ar, cr, rfl, e⟩; obtain rfl := e.symm
    refine RL.st ?_
    refine NV.p T ?_
    refine RL.st ?_
    refine NV.p T ?_
    refine RL.st ?_
    refine NV.p T ?_
    refine RL.st ?_
    refine NV.p T ?_
    refine RL.nil _ _ _ _ ?_
    refine hK7 _ _ _ ?_
    refine SW.ret ?_
    refine retQ.ret (RVs.tmp (by conv => lhs; whnf) (RVs.tmp (by conv => lhs; whnf) RVs.nil)) (fun w hw => hw) ?_
    clear hK7 K7 hK6 K6 hK5 K5 hK4 K4 hK2 K2 hK1 K1 hK0 K0
    exact ⟨_, _, rfl, rfl⟩
    )
theorem rtally_0 {w0 : World} {H : List Chunk} (m : Int) (h : 0 ≤ m) (hm : m.tmod 8 = 0) : SC Try.prog w0 20 #[.int .i64 m] H (fun v H' => RV w0 H (tallyT 0) 0 v H') := by
 refine SC.enter Try.func20 rfl (Nat.le_of_ble_eq_true rfl) ?_
 refine SW.seq_k ?_
 intro K0 hK0
 refine SW.region _ _ _ _ ?_
 refine RL.st ?_
 refine NV.p T ?_
 refine RL.st ?_
 refine NV.p T ?_
 refine RL.nil _ _ _ _ ?_
 refine hK0 _ _ _ ?_
 refine SW.seq_k ?_
 intro K1 hK1
 refine SW.seq_k ?_
 intro K2 hK2
 refine SW.region _ _ _ _ ?_
 refine RL.st ?_
 refine NV.p T ?_
 refine RL.st ?_
 refine NV.p T ?_
 refine RL.nil _ _ _ _ ?_
 refine hK2 _ _ _ ?_
 refine SW.cond rfl (fun hc0 => ?_) (fun hc0 => ?_)
 ·try simp only [decide_eq_true_eq, decide_eq_false_iff_not, Bool.not_eq_true', Bool.not_eq_false', Int.not_lt, Int.not_le, Int.toNat_natCast] at hc0
  first
   | (exfalso; clear hK2 K2; clear hK1 K1; clear hK0 K0; first | omega | contradiction)
   | (
    refine SW.seq_k ?_
    intro K3 hK3
    refine SW.region _ _ _ _ ?_
    refine RL.st ?_
    refine NV.p T ?_
    refine RL.st ?_
    refine NV.p T ?_
    refine RL.nil _ _ _ _ ?_
    refine hK3 _ _ _ ?_
    refine SW.sat (fun hs => ?_)
    refine SW.ret ?_
    refine retQ.ret (RVs.tmp (by conv => lhs; whnf) (RVs.tmp (by conv => lhs; whnf) RVs.nil)) (fun w hw => hw) ?_
    clear hK3 K3 hK2 K2 hK1 K1 hK0 K0
    exact ⟨_, rfl, Res.row (xs := tallyT 0) hs (.tail (.tail (.tail (.tail (.tail (.tail (.tail (.head _ _)))))))) (G := [_, _, _, _, _, _, _, _]) rfl⟩
    )
 ·try simp only [decide_eq_true_eq, decide_eq_false_iff_not, Bool.not_eq_true', Bool.not_eq_false', Int.not_lt, Int.not_le, Int.toNat_natCast] at hc0
  first
   | (exfalso; clear hK2 K2; clear hK1 K1; clear hK0 K0; first | omega | contradiction)
   | (
    refine SW.skip ?_
    refine hK1 _ _ _ ?_
    refine SW.seq_k ?_
    intro K4 hK4
    refine SW.region _ _ _ _ ?_
    refine RL.st ?_
    refine NV.buildSlice T rfl rfl rfl (Nat.le_of_ble_eq_true rfl) (by exact (rfl : _ = some [_, _, _, _])) ?_
    intro b6_0
    refine RL.st ?_
    refine NV.buildSlice T rfl rfl rfl (Nat.le_of_ble_eq_true rfl) (by exact (rfl : _ = some [_, _, _, _])) ?_
    intro b7_1
    refine RL.st ?_
    refine NV.buildSlice T rfl rfl rfl (Nat.le_of_ble_eq_true rfl) (by exact (rfl : _ = some [_, _, _, _])) ?_
    intro b8_2
    refine RL.st ?_
    refine NV.buildSlice T rfl rfl rfl (Nat.le_of_ble_eq_true rfl) (by exact (rfl : _ = some [_, _, _, _])) ?_
    intro b9_3
    refine RL.st ?_
    refine NV.buildSlice T rfl rfl rfl (Nat.le_of_ble_eq_true rfl) (by exact (rfl : _ = some [_, _, _, _])) ?_
    intro b10_4
    refine RL.st ?_
    refine NV.buildSlice T rfl rfl rfl (Nat.le_of_ble_eq_true rfl) (by exact (rfl : _ = some [_, _, _, _])) ?_
    intro b11_5
    refine RL.st ?_
    refine NV.buildSlice T rfl rfl rfl (Nat.le_of_ble_eq_true rfl) (by exact (rfl : _ = some [_, _, _, _])) ?_
    intro b12_6
    refine RL.st ?_
    refine NV.buildSlice T rfl rfl rfl (Nat.le_of_ble_eq_true rfl) (by exact (rfl : _ = some [_, _, _, _])) ?_
    intro b13_7
    refine RL.st ?_
    first | refine NV.buildc T rfl (rfl : _ = some [_, _, _, _, _, _, _, _]) ?_ | refine NV.pure T (rfl : _ = some (Value.agg #[_, _, _, _, _, _, _, _])) ?_
    refine RL.st ?_
    refine NV.p T ?_
    refine RL.st ?_
    refine NV.rem rfl rfl rfl (by omega) hm ?_
    refine RL.st ?_
    refine NV.p T ?_
    refine RL.st ?_
    refine NV.p T ?_
    refine RL.st ?_
    refine NV.p T ?_
    refine RL.nil _ _ _ _ ?_
    refine hK4 _ _ _ ?_
    refine SW.sat (fun hs => ?_)
    refine SW.ret ?_
    refine retQ.ret (RVs.tmp (by conv => lhs; whnf) (RVs.tmp (by conv => lhs; whnf) RVs.nil)) (fun w hw => hw) ?_
    clear hK4 K4 hK2 K2 hK1 K1 hK0 K0
    exact ⟨_, rfl, Res.row (xs := tallyT 0) hs (.tail (.tail (.tail (.tail (.tail (.tail (.tail (.head _ _)))))))) (G := [_, _, _, _, _, _, _, _]) rfl⟩
    )
theorem tally_1 {w0 : World} {H : List Chunk} (m : Int) (h : 0 ≤ m) (hm : m.tmod 8 = 1) : SC Try.prog w0 19 #[.int .i64 m] H (fun v H' => ∃ a c, v = .tuple #[.slice a 4 c, .int .i64 0] ∧ H' = .row a 4 c 5 1 ((tallyT 1).map (.int .u8)) :: H) := by
 refine SC.enter Try.func19 rfl (Nat.le_of_ble_eq_true rfl) ?_
 refine SW.seq_k ?_
 intro K0 hK0
 refine SW.region _ _ _ _ ?_
 refine RL.st ?_
 refine NV.p T ?_
 refine RL.st ?_
 refine NV.p T ?_
 refine RL.nil _ _ _ _ ?_
 refine hK0 _ _ _ ?_
 refine SW.seq_k ?_
 intro K1 hK1
 refine SW.seq_k ?_
 intro K2 hK2
 refine SW.region _ _ _ _ ?_
 refine RL.st ?_
 refine NV.p T ?_
 refine RL.st ?_
 refine NV.p T ?_
 refine RL.nil _ _ _ _ ?_
 refine hK2 _ _ _ ?_
 refine SW.cond rfl (fun hc0 => ?_) (fun hc0 => ?_)
 ·try simp only [decide_eq_true_eq, decide_eq_false_iff_not, Bool.not_eq_true', Bool.not_eq_false', Int.not_lt, Int.not_le, Int.toNat_natCast] at hc0
  first
   | (exfalso; clear hK2 K2; clear hK1 K1; clear hK0 K0; first | omega | contradiction)
   | (
    refine SW.seq_k ?_
    intro K3 hK3
    refine SW.region _ _ _ _ ?_
    refine RL.st ?_
    refine NV.p T ?_
    refine RL.st ?_
    refine NV.p T ?_
    refine RL.nil _ _ _ _ ?_
    refine hK3 _ _ _ ?_
    refine SW.ret ?_
    refine retQ.ret (RVs.tmp (by conv => lhs; whnf) (RVs.tmp (by conv => lhs; whnf) RVs.nil)) (fun w hw => hw) ?_
    clear hK3 K3 hK2 K2 hK1 K1 hK0 K0
    exact ⟨_, _, rfl, rfl⟩
    )
 ·try simp only [decide_eq_true_eq, decide_eq_false_iff_not, Bool.not_eq_true', Bool.not_eq_false', Int.not_lt, Int.not_le, Int.toNat_natCast] at hc0
  first
   | (exfalso; clear hK2 K2; clear hK1 K1; clear hK0 K0; first | omega | contradiction)
   | (
    refine SW.skip ?_
    refine hK1 _ _ _ ?_
    refine SW.seq_k ?_
    intro K4 hK4
    refine SW.region _ _ _ _ ?_
    refine RL.st ?_
    refine NV.p T ?_
    refine RL.st ?_
    refine NV.rem rfl rfl rfl (by omega) hm ?_
    refine RL.st ?_
    refine NV.p T ?_
    refine RL.nil _ _ _ _ ?_
    refine hK4 _ _ _ ?_
    refine SW.seq_k ?_
    intro K5 hK5
    refine SW.region _ _ _ _ ?_
    refine RL.st ?_
    refine NV.p T ?_
    refine RL.st ?_
    refine NV.p T ?_
    refine RL.st ?_
    refine NV.shift rfl rfl rfl (by omega) (.inr ⟨rfl, rfl⟩) ?_
    refine RL.st ?_
    refine NV.p T ?_
    refine RL.st ?_
    refine NV.p T ?_
    refine RL.nil _ _ _ _ ?_
    refine hK5 _ _ _ ?_
    refine SW.seq_k ?_
    intro K6 hK6
    refine SW.region _ _ _ _ ?_
    refine RL.st ?_
    refine NV.p T ?_
    refine RL.st ?_
    refine NV.p T ?_
    refine RL.st ?_
    refine NV.shift rfl rfl rfl (by omega) (.inr ⟨rfl, rfl⟩) ?_
    refine RL.st ?_
    refine NV.p T ?_
    refine RL.st ?_
    refine NV.p T ?_
    refine RL.st ?_
    refine NV.shift rfl rfl rfl (by omega) (.inr ⟨rfl, rfl⟩) ?_
    refine RL.st ?_
    refine NV.p T ?_
    refine RL.st ?_
    refine NV.p T ?_
    refine RL.st ?_
    refine NV.p T ?_
    refine RL.nil _ _ _ _ ?_
    refine hK6 _ _ _ ?_
    refine SW.seq_k ?_
    intro K7 hK7
    refine SW.region _ _ _ _ ?_
    refine RL.st ?_
    refine NV.p T ?_
    refine RL.st ?_
    refine NV.shift rfl rfl rfl (by omega) (.inl ⟨rfl, rfl⟩) ?_
    refine RL.st ?_
    refine NV.p T ?_
    refine RL.st ?_
    refine NV.p T ?_
    refine RL.st ?_
    refine NV.p T ?_
    refine RL.st ?_
    refine NV.call rfl rfl rfl fun33 rfl rfl (bput_ok 3 4 (by omega) (by omega) (by omega) (by decide)) ?_
    rintro _ _ ⟨ar, cr, rfl, e⟩; obtain rfl := e.symm
    refine RL.st ?_
    refine NV.p T ?_
    refine RL.st ?_
    refine NV.p T ?_
    refine RL.st ?_
    refine NV.p T ?_
    refine RL.st ?_
    refine NV.p T ?_
    refine RL.nil _ _ _ _ ?_
    refine hK7 _ _ _ ?_
    refine SW.ret ?_
    refine retQ.ret (RVs.tmp (by conv => lhs; whnf) (RVs.tmp (by conv => lhs; whnf) RVs.nil)) (fun w hw => hw) ?_
    clear hK7 K7 hK6 K6 hK5 K5 hK4 K4 hK2 K2 hK1 K1 hK0 K0
    exact ⟨_, _, rfl, rfl⟩
    )
theorem rtally_1 {w0 : World} {H : List Chunk} (m : Int) (h : 0 ≤ m) (hm : m.tmod 8 = 1) : SC Try.prog w0 20 #[.int .i64 m] H (fun v H' => RV w0 H (tallyT 1) 0 v H') := by
 refine SC.enter Try.func20 rfl (Nat.le_of_ble_eq_true rfl) ?_
 refine SW.seq_k ?_
 intro K0 hK0
 refine SW.region _ _ _ _ ?_
 refine RL.st ?_
 refine NV.p T ?_
 refine RL.st ?_
 refine NV.p T ?_
 refine RL.nil _ _ _ _ ?_
 refine hK0 _ _ _ ?_
 refine SW.seq_k ?_
 intro K1 hK1
 refine SW.seq_k ?_
 intro K2 hK2
 refine SW.region _ _ _ _ ?_
 refine RL.st ?_
 refine NV.p T ?_
 refine RL.st ?_
 refine NV.p T ?_
 refine RL.nil _ _ _ _ ?_
 refine hK2 _ _ _ ?_
 refine SW.cond rfl (fun hc0 => ?_) (fun hc0 => ?_)
 ·try simp only [decide_eq_true_eq, decide_eq_false_iff_not, Bool.not_eq_true', Bool.not_eq_false', Int.not_lt, Int.not_le, Int.toNat_natCast] at hc0
  first
   | (exfalso; clear hK2 K2; clear hK1 K1; clear hK0 K0; first | omega | contradiction)
   | (
    refine SW.seq_k ?_
    intro K3 hK3
    refine SW.region _ _ _ _ ?_
    refine RL.st ?_
    refine NV.p T ?_
    refine RL.st ?_
    refine NV.p T ?_
    refine RL.nil _ _ _ _ ?_
    refine hK3 _ _ _ ?_
    refine SW.sat (fun hs => ?_)
    refine SW.ret ?_
    refine retQ.ret (RVs.tmp (by conv => lhs; whnf) (RVs.tmp (by conv => lhs; whnf) RVs.nil)) (fun w hw => hw) ?_
    clear hK3 K3 hK2 K2 hK1 K1 hK0 K0
    exact ⟨_, rfl, Res.row (xs := tallyT 1) hs (.tail (.tail (.tail (.tail (.tail (.tail (.head _ _))))))) (G := [_, _, _, _, _, _, _, _]) rfl⟩
    )
 ·try simp only [decide_eq_true_eq, decide_eq_false_iff_not, Bool.not_eq_true', Bool.not_eq_false', Int.not_lt, Int.not_le, Int.toNat_natCast] at hc0
  first
   | (exfalso; clear hK2 K2; clear hK1 K1; clear hK0 K0; first | omega | contradiction)
   | (
    refine SW.skip ?_
    refine hK1 _ _ _ ?_
    refine SW.seq_k ?_
    intro K4 hK4
    refine SW.region _ _ _ _ ?_
    refine RL.st ?_
    refine NV.buildSlice T rfl rfl rfl (Nat.le_of_ble_eq_true rfl) (by exact (rfl : _ = some [_, _, _, _])) ?_
    intro b6_0
    refine RL.st ?_
    refine NV.buildSlice T rfl rfl rfl (Nat.le_of_ble_eq_true rfl) (by exact (rfl : _ = some [_, _, _, _])) ?_
    intro b7_1
    refine RL.st ?_
    refine NV.buildSlice T rfl rfl rfl (Nat.le_of_ble_eq_true rfl) (by exact (rfl : _ = some [_, _, _, _])) ?_
    intro b8_2
    refine RL.st ?_
    refine NV.buildSlice T rfl rfl rfl (Nat.le_of_ble_eq_true rfl) (by exact (rfl : _ = some [_, _, _, _])) ?_
    intro b9_3
    refine RL.st ?_
    refine NV.buildSlice T rfl rfl rfl (Nat.le_of_ble_eq_true rfl) (by exact (rfl : _ = some [_, _, _, _])) ?_
    intro b10_4
    refine RL.st ?_
    refine NV.buildSlice T rfl rfl rfl (Nat.le_of_ble_eq_true rfl) (by exact (rfl : _ = some [_, _, _, _])) ?_
    intro b11_5
    refine RL.st ?_
    refine NV.buildSlice T rfl rfl rfl (Nat.le_of_ble_eq_true rfl) (by exact (rfl : _ = some [_, _, _, _])) ?_
    intro b12_6
    refine RL.st ?_
    refine NV.buildSlice T rfl rfl rfl (Nat.le_of_ble_eq_true rfl) (by exact (rfl : _ = some [_, _, _, _])) ?_
    intro b13_7
    refine RL.st ?_
    first | refine NV.buildc T rfl (rfl : _ = some [_, _, _, _, _, _, _, _]) ?_ | refine NV.pure T (rfl : _ = some (Value.agg #[_, _, _, _, _, _, _, _])) ?_
    refine RL.st ?_
    refine NV.p T ?_
    refine RL.st ?_
    refine NV.rem rfl rfl rfl (by omega) hm ?_
    refine RL.st ?_
    refine NV.p T ?_
    refine RL.st ?_
    refine NV.p T ?_
    refine RL.st ?_
    refine NV.p T ?_
    refine RL.nil _ _ _ _ ?_
    refine hK4 _ _ _ ?_
    refine SW.sat (fun hs => ?_)
    refine SW.ret ?_
    refine retQ.ret (RVs.tmp (by conv => lhs; whnf) (RVs.tmp (by conv => lhs; whnf) RVs.nil)) (fun w hw => hw) ?_
    clear hK4 K4 hK2 K2 hK1 K1 hK0 K0
    exact ⟨_, rfl, Res.row (xs := tallyT 1) hs (.tail (.tail (.tail (.tail (.tail (.tail (.head _ _))))))) (G := [_, _, _, _, _, _, _, _]) rfl⟩
    )
theorem tally_2 {w0 : World} {H : List Chunk} (m : Int) (h : 0 ≤ m) (hm : m.tmod 8 = 2) : SC Try.prog w0 19 #[.int .i64 m] H (fun v H' => ∃ a c, v = .tuple #[.slice a 4 c, .int .i64 0] ∧ H' = .row a 4 c 5 1 ((tallyT 2).map (.int .u8)) :: H) := by
 refine SC.enter Try.func19 rfl (Nat.le_of_ble_eq_true rfl) ?_
 refine SW.seq_k ?_
 intro K0 hK0
 refine SW.region _ _ _ _ ?_
 refine RL.st ?_
 refine NV.p T ?_
 refine RL.st ?_
 refine NV.p T ?_
 refine RL.nil _ _ _ _ ?_
 refine hK0 _ _ _ ?_
 refine SW.seq_k ?_
 intro K1 hK1
 refine SW.seq_k ?_
 intro K2 hK2
 refine SW.region _ _ _ _ ?_
 refine RL.st ?_
 refine NV.p T ?_
 refine RL.st ?_
 refine NV.p T ?_
 refine RL.nil _ _ _ _ ?_
 refine hK2 _ _ _ ?_
 refine SW.cond rfl (fun hc0 => ?_) (fun hc0 => ?_)
 ·try simp only [decide_eq_true_eq, decide_eq_false_iff_not, Bool.not_eq_true', Bool.not_eq_false', Int.not_lt, Int.not_le, Int.toNat_natCast] at hc0
  first
   | (exfalso; clear hK2 K2; clear hK1 K1; clear hK0 K0; first | omega | contradiction)
   | (
    refine SW.seq_k ?_
    intro K3 hK3
    refine SW.region _ _ _ _ ?_
    refine RL.st ?_
    refine NV.p T ?_
    refine RL.st ?_
    refine NV.p T ?_
    refine RL.nil _ _ _ _ ?_
    refine hK3 _ _ _ ?_
    refine SW.ret ?_
    refine retQ.ret (RVs.tmp (by conv => lhs; whnf) (RVs.tmp (by conv => lhs; whnf) RVs.nil)) (fun w hw => hw) ?_
    clear hK3 K3 hK2 K2 hK1 K1 hK0 K0
    exact ⟨_, _, rfl, rfl⟩
    )
 ·try simp only [decide_eq_true_eq, decide_eq_false_iff_not, Bool.not_eq_true', Bool.not_eq_false', Int.not_lt, Int.not_le, Int.toNat_natCast] at hc0
  first
   | (exfalso; clear hK2 K2; clear hK1 K1; clear hK0 K0; first | omega | contradiction)
   | (
    refine SW.skip ?_
    refine hK1 _ _ _ ?_
    refine SW.seq_k ?_
    intro K4 hK4
    refine SW.region _ _ _ _ ?_
    refine RL.st ?_
    refine NV.p T ?_
    refine RL.st ?_
    refine NV.rem rfl rfl rfl (by omega) hm ?_
    refine RL.st ?_
    refine NV.p T ?_
    refine RL.nil _ _ _ _ ?_
    refine hK4 _ _ _ ?_
    refine SW.seq_k ?_
    intro K5 hK5
    refine SW.region _ _ _ _ ?_
    refine RL.st ?_
    refine NV.p T ?_
    refine RL.st ?_
    refine NV.p T ?_
    refine RL.st ?_
    refine NV.shift rfl rfl rfl (by omega) (.inr ⟨rfl, rfl⟩) ?_
    refine RL.st ?_
    refine NV.p T ?_
    refine RL.st ?_
    refine NV.p T ?_
    refine RL.nil _ _ _ _ ?_
    refine hK5 _ _ _ ?_
    refine SW.seq_k ?_
    intro K6 hK6
    refine SW.region _ _ _ _ ?_
    refine RL.st ?_
    refine NV.p T ?_
    refine RL.st ?_
    refine NV.p T ?_
    refine RL.st ?_
    refine NV.shift rfl rfl rfl (by omega) (.inr ⟨rfl, rfl⟩) ?_
    refine RL.st ?_
    refine NV.p T ?_
    refine RL.st ?_
    refine NV.p T ?_
    refine RL.st ?_
    refine NV.shift rfl rfl rfl (by omega) (.inr ⟨rfl, rfl⟩) ?_
    refine RL.st ?_
    refine NV.p T ?_
    refine RL.st ?_
    refine NV.p T ?_
    refine RL.st ?_
    refine NV.p T ?_
    refine RL.nil _ _ _ _ ?_
    refine hK6 _ _ _ ?_
    refine SW.seq_k ?_
    intro K7 hK7
    refine SW.region _ _ _ _ ?_
    refine RL.st ?_
    refine NV.p T ?_
    refine RL.st ?_
    refine NV.shift rfl rfl rfl (by omega) (.inl ⟨rfl, rfl⟩) ?_
    refine RL.st ?_
    refine NV.p T ?_
    refine RL.st ?_
    refine NV.p T ?_
    refine RL.st ?_
    refine NV.p T ?_
    refine RL.st ?_
    refine NV.call rfl rfl rfl fun33 rfl rfl (bput_ok 6 4 (by omega) (by omega) (by omega) (by decide)) ?_
    rintro _ _ ⟨ar, cr, rfl, e⟩; obtain rfl := e.symm
    refine RL.st ?_
    refine NV.p T ?_
    refine RL.st ?_
    refine NV.p T ?_
    refine RL.st ?_
    refine NV.p T ?_
    refine RL.st ?_
    refine NV.p T ?_
    refine RL.nil _ _ _ _ ?_
    refine hK7 _ _ _ ?_
    refine SW.ret ?_
    refine retQ.ret (RVs.tmp (by conv => lhs; whnf) (RVs.tmp (by conv => lhs; whnf) RVs.nil)) (fun w hw => hw) ?_
    clear hK7 K7 hK6 K6 hK5 K5 hK4 K4 hK2 K2 hK1 K1 hK0 K0
    exact ⟨_, _, rfl, rfl⟩
    )
theorem rtally_2 {w0 : World} {H : List Chunk} (m : Int) (h : 0 ≤ m) (hm : m.tmod 8 = 2) : SC Try.prog w0 20 #[.int .i64 m] H (fun v H' => RV w0 H (tallyT 2) 0 v H') := by
 refine SC.enter Try.func20 rfl (Nat.le_of_ble_eq_true rfl) ?_
 refine SW.seq_k ?_
 intro K0 hK0
 refine SW.region _ _ _ _ ?_
 refine RL.st ?_
 refine NV.p T ?_
 refine RL.st ?_
 refine NV.p T ?_
 refine RL.nil _ _ _ _ ?_
 refine hK0 _ _ _ ?_
 refine SW.seq_k ?_
 intro K1 hK1
 refine SW.seq_k ?_
 intro K2 hK2
 refine SW.region _ _ _ _ ?_
 refine RL.st ?_
 refine NV.p T ?_
 refine RL.st ?_
 refine NV.p T ?_
 refine RL.nil _ _ _ _ ?_
 refine hK2 _ _ _ ?_
 refine SW.cond rfl (fun hc0 => ?_) (fun hc0 => ?_)
 ·try simp only [decide_eq_true_eq, decide_eq_false_iff_not, Bool.not_eq_true', Bool.not_eq_false', Int.not_lt, Int.not_le, Int.toNat_natCast] at hc0
  first
   | (exfalso; clear hK2 K2; clear hK1 K1; clear hK0 K0; first | omega | contradiction)
   | (
    refine SW.seq_k ?_
    intro K3 hK3
    refine SW.region _ _ _ _ ?_
    refine RL.st ?_
    refine NV.p T ?_
    refine RL.st ?_
    refine NV.p T ?_
    refine RL.nil _ _ _ _ ?_
    refine hK3 _ _ _ ?_
    refine SW.sat (fun hs => ?_)
    refine SW.ret ?_
    refine retQ.ret (RVs.tmp (by conv => lhs; whnf) (RVs.tmp (by conv => lhs; whnf) RVs.nil)) (fun w hw => hw) ?_
    clear hK3 K3 hK2 K2 hK1 K1 hK0 K0
    exact ⟨_, rfl, Res.row (xs := tallyT 2) hs (.tail (.tail (.tail (.tail (.tail (.head _ _)))))) (G := [_, _, _, _, _, _, _, _]) rfl⟩
    )
 ·try simp only [decide_eq_true_eq, decide_eq_false_iff_not, Bool.not_eq_true', Bool.not_eq_false', Int.not_lt, Int.not_le, Int.toNat_natCast] at hc0
  first
   | (exfalso; clear hK2 K2; clear hK1 K1; clear hK0 K0; first | omega | contradiction)
   | (
    refine SW.skip ?_
    refine hK1 _ _ _ ?_
    refine SW.seq_k ?_
    intro K4 hK4
    refine SW.region _ _ _ _ ?_
    refine RL.st ?_
    refine NV.buildSlice T rfl rfl rfl (Nat.le_of_ble_eq_true rfl) (by exact (rfl : _ = some [_, _, _, _])) ?_
    intro b6_0
    refine RL.st ?_
    refine NV.buildSlice T rfl rfl rfl (Nat.le_of_ble_eq_true rfl) (by exact (rfl : _ = some [_, _, _, _])) ?_
    intro b7_1
    refine RL.st ?_
    refine NV.buildSlice T rfl rfl rfl (Nat.le_of_ble_eq_true rfl) (by exact (rfl : _ = some [_, _, _, _])) ?_
    intro b8_2
    refine RL.st ?_
    refine NV.buildSlice T rfl rfl rfl (Nat.le_of_ble_eq_true rfl) (by exact (rfl : _ = some [_, _, _, _])) ?_
    intro b9_3
    refine RL.st ?_
    refine NV.buildSlice T rfl rfl rfl (Nat.le_of_ble_eq_true rfl) (by exact (rfl : _ = some [_, _, _, _])) ?_
    intro b10_4
    refine RL.st ?_
    refine NV.buildSlice T rfl rfl rfl (Nat.le_of_ble_eq_true rfl) (by exact (rfl : _ = some [_, _, _, _])) ?_
    intro b11_5
    refine RL.st ?_
    refine NV.buildSlice T rfl rfl rfl (Nat.le_of_ble_eq_true rfl) (by exact (rfl : _ = some [_, _, _, _])) ?_
    intro b12_6
    refine RL.st ?_
    refine NV.buildSlice T rfl rfl rfl (Nat.le_of_ble_eq_true rfl) (by exact (rfl : _ = some [_, _, _, _])) ?_
    intro b13_7
    refine RL.st ?_
    first | refine NV.buildc T rfl (rfl : _ = some [_, _, _, _, _, _, _, _]) ?_ | refine NV.pure T (rfl : _ = some (Value.agg #[_, _, _, _, _, _, _, _])) ?_
    refine RL.st ?_
    refine NV.p T ?_
    refine RL.st ?_
    refine NV.rem rfl rfl rfl (by omega) hm ?_
    refine RL.st ?_
    refine NV.p T ?_
    refine RL.st ?_
    refine NV.p T ?_
    refine RL.st ?_
    refine NV.p T ?_
    refine RL.nil _ _ _ _ ?_
    refine hK4 _ _ _ ?_
    refine SW.sat (fun hs => ?_)
    refine SW.ret ?_
    refine retQ.ret (RVs.tmp (by conv => lhs; whnf) (RVs.tmp (by conv => lhs; whnf) RVs.nil)) (fun w hw => hw) ?_
    clear hK4 K4 hK2 K2 hK1 K1 hK0 K0
    exact ⟨_, rfl, Res.row (xs := tallyT 2) hs (.tail (.tail (.tail (.tail (.tail (.head _ _)))))) (G := [_, _, _, _, _, _, _, _]) rfl⟩
    )
theorem tally_3 {w0 : World} {H : List Chunk} (m : Int) (h : 0 ≤ m) (hm : m.tmod 8 = 3) : SC Try.prog w0 19 #[.int .i64 m] H (fun v H' => ∃ a c, v = .tuple #[.slice a 4 c, .int .i64 0] ∧ H' = .row a 4 c 5 1 ((tallyT 3).map (.int .u8)) :: H) := by
 refine SC.enter Try.func19 rfl (Nat.le_of_ble_eq_true rfl) ?_
 refine SW.seq_k ?_
 intro K0 hK0
 refine SW.region _ _ _ _ ?_
 refine RL.st ?_
 refine NV.p T ?_
 refine RL.st ?_
 refine NV.p T ?_
 refine RL.nil _ _ _ _ ?_
 refine hK0 _ _ _ ?_
 refine SW.seq_k ?_
 intro K1 hK1
 refine SW.seq_k ?_
 intro K2 hK2
 refine SW.region _ _ _ _ ?_
 refine RL.st ?_
 refine NV.p T ?_
 refine RL.st ?_
 refine NV.p T ?_
 refine RL.nil _ _ _ _ ?_
 refine hK2 _ _ _ ?_
 refine SW.cond rfl (fun hc0 => ?_) (fun hc0 => ?_)
 ·try simp only [decide_eq_true_eq, decide_eq_false_iff_not, Bool.not_eq_true', Bool.not_eq_false', Int.not_lt, Int.not_le, Int.toNat_natCast] at hc0
  first
   | (exfalso; clear hK2 K2; clear hK1 K1; clear hK0 K0; first | omega | contradiction)
   | (
    refine SW.seq_k ?_
    intro K3 hK3
    refine SW.region _ _ _ _ ?_
    refine RL.st ?_
    refine NV.p T ?_
    refine RL.st ?_
    refine NV.p T ?_
    refine RL.nil _ _ _ _ ?_
    refine hK3 _ _ _ ?_
    refine SW.ret ?_
    refine retQ.ret (RVs.tmp (by conv => lhs; whnf) (RVs.tmp (by conv => lhs; whnf) RVs.nil)) (fun w hw => hw) ?_
    clear hK3 K3 hK2 K2 hK1 K1 hK0 K0
    exact ⟨_, _, rfl, rfl⟩
    )
 ·try simp only [decide_eq_true_eq, decide_eq_false_iff_not, Bool.not_eq_true', Bool.not_eq_false', Int.not_lt, Int.not_le, Int.toNat_natCast] at hc0
  first
   | (exfalso; clear hK2 K2; clear hK1 K1; clear hK0 K0; first | omega | contradiction)
   | (
    refine SW.skip ?_
    refine hK1 _ _ _ ?_
    refine SW.seq_k ?_
    intro K4 hK4
    refine SW.region _ _ _ _ ?_
    refine RL.st ?_
    refine NV.p T ?_
    refine RL.st ?_
    refine NV.rem rfl rfl rfl (by omega) hm ?_
    refine RL.st ?_
    refine NV.p T ?_
    refine RL.nil _ _ _ _ ?_
    refine hK4 _ _ _ ?_
    refine SW.seq_k ?_
    intro K5 hK5
    refine SW.region _ _ _ _ ?_
    refine RL.st ?_
    refine NV.p T ?_
    refine RL.st ?_
    refine NV.p T ?_
    refine RL.st ?_
    refine NV.shift rfl rfl rfl (by omega) (.inr ⟨rfl, rfl⟩) ?_
    refine RL.st ?_
    refine NV.p T ?_
    refine RL.st ?_
    refine NV.p T ?_
    refine RL.nil _ _ _ _ ?_
    refine hK5 _ _ _ ?_
    refine SW.seq_k ?_
    intro K6 hK6
    refine SW.region _ _ _ _ ?_
    refine RL.st ?_
    refine NV.p T ?_
    refine RL.st ?_
    refine NV.p T ?_
    refine RL.st ?_
    refine NV.shift rfl rfl rfl (by omega) (.inr ⟨rfl, rfl⟩) ?_
    refine RL.st ?_
    refine NV.p T ?_
    refine RL.st ?_
    refine NV.p T ?_
    refine RL.st ?_
    refine NV.shift rfl rfl rfl (by omega) (.inr ⟨rfl, rfl⟩) ?_
    refine RL.st ?_
    refine NV.p T ?_
    refine RL.st ?_
    refine NV.p T ?_
    refine RL.st ?_
    refine NV.p T ?_
    refine RL.nil _ _ _ _ ?_
    refine hK6 _ _ _ ?_
    refine SW.seq_k ?_
    intro K7 hK7
    refine SW.region _ _ _ _ ?_
    refine RL.st ?_
    refine NV.p T ?_
    refine RL.st ?_
    refine NV.shift rfl rfl rfl (by omega) (.inl ⟨rfl, rfl⟩) ?_
    refine RL.st ?_
    refine NV.p T ?_
    refine RL.st ?_
    refine NV.p T ?_
    refine RL.st ?_
    refine NV.p T ?_
    refine RL.st ?_
    refine NV.call rfl rfl rfl fun33 rfl rfl (bput_ok 5 4 (by omega) (by omega) (by omega) (by decide)) ?_
    rintro _ _ ⟨ar, cr, rfl, e⟩; obtain rfl := e.symm
    refine RL.st ?_
    refine NV.p T ?_
    refine RL.st ?_
    refine NV.p T ?_
    refine RL.st ?_
    refine NV.p T ?_
    refine RL.st ?_
    refine NV.p T ?_
    refine RL.nil _ _ _ _ ?_
    refine hK7 _ _ _ ?_
    refine SW.ret ?_
    refine retQ.ret (RVs.tmp (by conv => lhs; whnf) (RVs.tmp (by conv => lhs; whnf) RVs.nil)) (fun w hw => hw) ?_
    clear hK7 K7 hK6 K6 hK5 K5 hK4 K4 hK2 K2 hK1 K1 hK0 K0
    exact ⟨_, _, rfl, rfl⟩
    )
theorem rtally_3 {w0 : World} {H : List Chunk} (m : Int) (h : 0 ≤ m) (hm : m.tmod 8 = 3) : SC Try.prog w0 20 #[.int .i64 m] H (fun v H' => RV w0 H (tallyT 3) 0 v H') := by
 refine SC.enter Try.func20 rfl (Nat.le_of_ble_eq_true rfl) ?_
 refine SW.seq_k ?_
 intro K0 hK0
 refine SW.region _ _ _ _ ?_
 refine RL.st ?_
 refine NV.p T ?_
 refine RL.st ?_
 refine NV.p T ?_
 refine RL.nil _ _ _ _ ?_
 refine hK0 _ _ _ ?_
 refine SW.seq_k ?_
 intro K1 hK1
 refine SW.seq_k ?_
 intro K2 hK2
 refine SW.region _ _ _ _ ?_
 refine RL.st ?_
 refine NV.p T ?_
 refine RL.st ?_
 refine NV.p T ?_
 refine RL.nil _ _ _ _ ?_
 refine hK2 _ _ _ ?_
 refine SW.cond rfl (fun hc0 => ?_) (fun hc0 => ?_)
 ·try simp only [decide_eq_true_eq, decide_eq_false_iff_not, Bool.not_eq_true', Bool.not_eq_false', Int.not_lt, Int.not_le, Int.toNat_natCast] at hc0
  first
   | (exfalso; clear hK2 K2; clear hK1 K1; clear hK0 K0; first | omega | contradiction)
   | (
    refine SW.seq_k ?_
    intro K3 hK3
    refine SW.region _ _ _ _ ?_
    refine RL.st ?_
    refine NV.p T ?_
    refine RL.st ?_
    refine NV.p T ?_
    refine RL.nil _ _ _ _ ?_
    refine hK3 _ _ _ ?_
    refine SW.sat (fun hs => ?_)
    refine SW.ret ?_
    refine retQ.ret (RVs.tmp (by conv => lhs; whnf) (RVs.tmp (by conv => lhs; whnf) RVs.nil)) (fun w hw => hw) ?_
    clear hK3 K3 hK2 K2 hK1 K1 hK0 K0
    exact ⟨_, rfl, Res.row (xs := tallyT 3) hs (.tail (.tail (.tail (.tail (.head _ _))))) (G := [_, _, _, _, _, _, _, _]) rfl⟩
    )
 ·try simp only [decide_eq_true_eq, decide_eq_false_iff_not, Bool.not_eq_true', Bool.not_eq_false', Int.not_lt, Int.not_le, Int.toNat_natCast] at hc0
  first
   | (exfalso; clear hK2 K2; clear hK1 K1; clear hK0 K0; first | omega | contradiction)
   | (
    refine SW.skip ?_
    refine hK1 _ _ _ ?_
    refine SW.seq_k ?_
    intro K4 hK4
    refine SW.region _ _ _ _ ?_
    refine RL.st ?_
    refine NV.buildSlice T rfl rfl rfl (Nat.le_of_ble_eq_true rfl) (by exact (rfl : _ = some [_, _, _, _])) ?_
    intro b6_0
    refine RL.st ?_
    refine NV.buildSlice T rfl rfl rfl (Nat.le_of_ble_eq_true rfl) (by exact (rfl : _ = some [_, _, _, _])) ?_
    intro b7_1
    refine RL.st ?_
    refine NV.buildSlice T rfl rfl rfl (Nat.le_of_ble_eq_true rfl) (by exact (rfl : _ = some [_, _, _, _])) ?_
    intro b8_2
    refine RL.st ?_
    refine NV.buildSlice T rfl rfl rfl (Nat.le_of_ble_eq_true rfl) (by exact (rfl : _ = some [_, _, _, _])) ?_
    intro b9_3
    refine RL.st ?_
    refine NV.buildSlice T rfl rfl rfl (Nat.le_of_ble_eq_true rfl) (by exact (rfl : _ = some [_, _, _, _])) ?_
    intro b10_4
    refine RL.st ?_
    refine NV.buildSlice T rfl rfl rfl (Nat.le_of_ble_eq_true rfl) (by exact (rfl : _ = some [_, _, _, _])) ?_
    intro b11_5
    refine RL.st ?_
    refine NV.buildSlice T rfl rfl rfl (Nat.le_of_ble_eq_true rfl) (by exact (rfl : _ = some [_, _, _, _])) ?_
    intro b12_6
    refine RL.st ?_
    refine NV.buildSlice T rfl rfl rfl (Nat.le_of_ble_eq_true rfl) (by exact (rfl : _ = some [_, _, _, _])) ?_
    intro b13_7
    refine RL.st ?_
    first | refine NV.buildc T rfl (rfl : _ = some [_, _, _, _, _, _, _, _]) ?_ | refine NV.pure T (rfl : _ = some (Value.agg #[_, _, _, _, _, _, _, _])) ?_
    refine RL.st ?_
    refine NV.p T ?_
    refine RL.st ?_
    refine NV.rem rfl rfl rfl (by omega) hm ?_
    refine RL.st ?_
    refine NV.p T ?_
    refine RL.st ?_
    refine NV.p T ?_
    refine RL.st ?_
    refine NV.p T ?_
    refine RL.nil _ _ _ _ ?_
    refine hK4 _ _ _ ?_
    refine SW.sat (fun hs => ?_)
    refine SW.ret ?_
    refine retQ.ret (RVs.tmp (by conv => lhs; whnf) (RVs.tmp (by conv => lhs; whnf) RVs.nil)) (fun w hw => hw) ?_
    clear hK4 K4 hK2 K2 hK1 K1 hK0 K0
    exact ⟨_, rfl, Res.row (xs := tallyT 3) hs (.tail (.tail (.tail (.tail (.head _ _))))) (G := [_, _, _, _, _, _, _, _]) rfl⟩
    )
theorem tally_4 {w0 : World} {H : List Chunk} (m : Int) (h : 0 ≤ m) (hm : m.tmod 8 = 4) : SC Try.prog w0 19 #[.int .i64 m] H (fun v H' => ∃ a c, v = .tuple #[.slice a 4 c, .int .i64 0] ∧ H' = .row a 4 c 5 1 ((tallyT 4).map (.int .u8)) :: H) := by
 refine SC.enter Try.func19 rfl (Nat.le_of_ble_eq_true rfl) ?_
 refine SW.seq_k ?_
 intro K0 hK0
 refine SW.region _ _ _ _ ?_
 refine RL.st ?_
 refine NV.p T ?_
 refine RL.st ?_
 refine NV.p T ?_
 refine RL.nil _ _ _ _ ?_
 refine hK0 _ _ _ ?_
 refine SW.seq_k ?_
 intro K1 hK1
 refine SW.seq_k ?_
 intro K2 hK2
 refine SW.region _ _ _ _ ?_
 refine RL.st ?_
 refine NV.p T ?_
 refine RL.st ?_
 refine NV.p T ?_
 refine RL.nil _ _ _ _ ?_
 refine hK2 _ _ _ ?_
 refine SW.cond rfl (fun hc0 => ?_) (fun hc0 => ?_)
 ·try simp only [decide_eq_true_eq, decide_eq_false_iff_not, Bool.not_eq_true', Bool.not_eq_false', Int.not_lt, Int.not_le, Int.toNat_natCast] at hc0
  first
   | (exfalso; clear hK2 K2; clear hK1 K1; clear hK0 K0; first | omega | contradiction)
   | (
    refine SW.seq_k ?_
    intro K3 hK3
    refine SW.region _ _ _ _ ?_
    refine RL.st ?_
    refine NV.p T ?_
    refine RL.st ?_
    refine NV.p T ?_
    refine RL.nil _ _ _ _ ?_
    refine hK3 _ _ _ ?_
    refine SW.ret ?_
    refine retQ.ret (RVs.tmp (by conv => lhs; whnf) (RVs.tmp (by conv => lhs; whnf) RVs.nil)) (fun w hw => hw) ?_
    clear hK3 K3 hK2 K2 hK1 K1 hK0 K0
    exact ⟨_, _, rfl, rfl⟩
    )
 ·try simp only [decide_eq_true_eq, decide_eq_false_iff_not, Bool.not_eq_true', Bool.not_eq_false', Int.not_lt, Int.not_le, Int.toNat_natCast] at hc0
  first
   | (exfalso; clear hK2 K2; clear hK1 K1; clear hK0 K0; first | omega | contradiction)
   | (
    refine SW.skip ?_
    refine hK1 _ _ _ ?_
    refine SW.seq_k ?_
    intro K4 hK4
    refine SW.region _ _ _ _ ?_
    refine RL.st ?_
    refine NV.p T ?_
    refine RL.st ?_
    refine NV.rem rfl rfl rfl (by omega) hm ?_
    refine RL.st ?_
    refine NV.p T ?_
    refine RL.nil _ _ _ _ ?_
    refine hK4 _ _ _ ?_
    refine SW.seq_k ?_
    intro K5 hK5
    refine SW.region _ _ _ _ ?_
    refine RL.st ?_
    refine NV.p T ?_
    refine RL.st ?_
    refine NV.p T ?_
    refine RL.st ?_
    refine NV.shift rfl rfl rfl (by omega) (.inr ⟨rfl, rfl⟩) ?_
    refine RL.st ?_
    refine NV.p T ?_
    refine RL.st ?_
    refine NV.p T ?_
    refine RL.nil _ _ _ _ ?_
    refine hK5 _ _ _ ?_
    refine SW.seq_k ?_
    intro K6 hK6
    refine SW.region _ _ _ _ ?_
    refine RL.st ?_
    refine NV.p T ?_
    refine RL.st ?_
    refine NV.p T ?_
    refine RL.st ?_
    refine NV.shift rfl rfl rfl (by omega) (.inr ⟨rfl, rfl⟩) ?_
    refine RL.st ?_
    refine NV.p T ?_
    refine RL.st ?_
    refine NV.p T ?_
    refine RL.st ?_
    refine NV.shift rfl rfl rfl (by omega) (.inr ⟨rfl, rfl⟩) ?_
    refine RL.st ?_
    refine NV.p T ?_
    refine RL.st ?_
    refine NV.p T ?_
    refine RL.st ?_
    refine NV.p T ?_
    refine RL.nil _ _ _ _ ?_
    refine hK6 _ _ _ ?_
    refine SW.seq_k ?_
    intro K7 hK7
    refine SW.region _ _ _ _ ?_
    refine RL.st ?_
    refine NV.p T ?_
    refine RL.st ?_
    refine NV.shift rfl rfl rfl (by omega) (.inl ⟨rfl, rfl⟩) ?_
    refine RL.st ?_
    refine NV.p T ?_
    refine RL.st ?_
    refine NV.p T ?_
    refine RL.st ?_
    refine NV.p T ?_
    refine RL.st ?_
    refine NV.call rfl rfl rfl fun33 rfl rfl (bput_ok 12 4 (by omega) (by omega) (by omega) (by decide)) ?_
    rintro _ _ ⟨ar, cr, rfl, e⟩; obtain rfl := e.symm
    refine RL.st ?_
    refine NV.p T ?_
    refine RL.st ?_
    refine NV.p T ?_
    refine RL.st ?_
    refine NV.p T ?_
    refine RL.st ?_
    refine NV.p T ?_
    refine RL.nil _ _ _ _ ?_
    refine hK7 _ _ _ ?_
    refine SW.ret ?_
    refine retQ.ret (RVs.tmp (by conv => lhs; whnf) (RVs.tmp (by conv => lhs; whnf) RVs.nil)) (fun w hw => hw) ?_
    clear hK7 K7 hK6 K6 hK5 K5 hK4 K4 hK2 K2 hK1 K1 hK0 K0
    exact ⟨_, _, rfl, rfl⟩
    )
theorem rtally_4 {w0 : World} {H : List Chunk} (m : Int) (h : 0 ≤ m) (hm : m.tmod 8 = 4) : SC Try.prog w0 20 #[.int .i64 m] H (fun v H' => RV w0 H (tallyT 4) 0 v H') := by
 refine SC.enter Try.func20 rfl (Nat.le_of_ble_eq_true rfl) ?_
 refine SW.seq_k ?_
 intro K0 hK0
 refine SW.region _ _ _ _ ?_
 refine RL.st ?_
 refine NV.p T ?_
 refine RL.st ?_
 refine NV.p T ?_
 refine RL.nil _ _ _ _ ?_
 refine hK0 _ _ _ ?_
 refine SW.seq_k ?_
 intro K1 hK1
 refine SW.seq_k ?_
 intro K2 hK2
 refine SW.region _ _ _ _ ?_
 refine RL.st ?_
 refine NV.p T ?_
 refine RL.st ?_
 refine NV.p T ?_
 refine RL.nil _ _ _ _ ?_
 refine hK2 _ _ _ ?_
 refine SW.cond rfl (fun hc0 => ?_) (fun hc0 => ?_)
 ·try simp only [decide_eq_true_eq, decide_eq_false_iff_not, Bool.not_eq_true', Bool.not_eq_false', Int.not_lt, Int.not_le, Int.toNat_natCast] at hc0
  first
   | (exfalso; clear hK2 K2; clear hK1 K1; clear hK0 K0; first | omega | contradiction)
   | (
    refine SW.seq_k ?_
    intro K3 hK3
    refine SW.region _ _ _ _ ?_
    refine RL.st ?_
    refine NV.p T ?_
    refine RL.st ?_
    refine NV.p T ?_
    refine RL.nil _ _ _ _ ?_
    refine hK3 _ _ _ ?_
    refine SW.sat (fun hs => ?_)
    refine SW.ret ?_
    refine retQ.ret (RVs.tmp (by conv => lhs; whnf) (RVs.tmp (by conv => lhs; whnf) RVs.nil)) (fun w hw => hw) ?_
    clear hK3 K3 hK2 K2 hK1 K1 hK0 K0
    exact ⟨_, rfl, Res.row (xs := tallyT 4) hs (.tail (.tail (.tail (.head _ _)))) (G := [_, _, _, _, _, _, _, _]) rfl⟩
    )
 ·try simp only [decide_eq_true_eq, decide_eq_false_iff_not, Bool.not_eq_true', Bool.not_eq_false', Int.not_lt, Int.not_le, Int.toNat_natCast] at hc0
  first
   | (exfalso; clear hK2 K2; clear hK1 K1; clear hK0 K0; first | omega | contradiction)
   | (
    refine SW.skip ?_
    refine hK1 _ _ _ ?_
    refine SW.seq_k ?_
    intro K4 hK4
    refine SW.region _ _ _ _ ?_
    refine RL.st ?_
    refine NV.buildSlice T rfl rfl rfl (Nat.le_of_ble_eq_true rfl) (by exact (rfl : _ = some [_, _, _, _])) ?_
    intro b6_0
    refine RL.st ?_
    refine NV.buildSlice T rfl rfl rfl (Nat.le_of_ble_eq_true rfl) (by exact (rfl : _ = some [_, _, _, _])) ?_
    intro b7_1
    refine RL.st ?_
    refine NV.buildSlice T rfl rfl rfl (Nat.le_of_ble_eq_true rfl) (by exact (rfl : _ = some [_, _, _, _])) ?_
    intro b8_2
    refine RL.st ?_
    refine NV.buildSlice T rfl rfl rfl (Nat.le_of_ble_eq_true rfl) (by exact (rfl : _ = some [_, _, _, _])) ?_
    intro b9_3
    refine RL.st ?_
    refine NV.buildSlice T rfl rfl rfl (Nat.le_of_ble_eq_true rfl) (by exact (rfl : _ = some [_, _, _, _])) ?_
    intro b10_4
    refine RL.st ?_
    refine NV.buildSlice T rfl rfl rfl (Nat.le_of_ble_eq_true rfl) (by exact (rfl : _ = some [_, _, _, _])) ?_
    intro b11_5
    refine RL.st ?_
    refine NV.buildSlice T rfl rfl rfl (Nat.le_of_ble_eq_true rfl) (by exact (rfl : _ = some [_, _, _, _])) ?_
    intro b12_6
    refine RL.st ?_
    refine NV.buildSlice T rfl rfl rfl (Nat.le_of_ble_eq_true rfl) (by exact (rfl : _ = some [_, _, _, _])) ?_
    intro b13_7
    refine RL.st ?_
    first | refine NV.buildc T rfl (rfl : _ = some [_, _, _, _, _, _, _, _]) ?_ | refine NV.pure T (rfl : _ = some (Value.agg #[_, _, _, _, _, _, _, _])) ?_
    refine RL.st ?_
    refine NV.p T ?_
    refine RL.st ?_
    refine NV.rem rfl rfl rfl (by omega) hm ?_
    refine RL.st ?_
    refine NV.p T ?_
    refine RL.st ?_
    refine NV.p T ?_
    refine RL.st ?_
    refine NV.p T ?_
    refine RL.nil _ _ _ _ ?_
    refine hK4 _ _ _ ?_
    refine SW.sat (fun hs => ?_)
    refine SW.ret ?_
    refine retQ.ret (RVs.tmp (by conv => lhs; whnf) (RVs.tmp (by conv => lhs; whnf) RVs.nil)) (fun w hw => hw) ?_
    clear hK4 K4 hK2 K2 hK1 K1 hK0 K0
    exact ⟨_, rfl, Res.row (xs := tallyT 4) hs (.tail (.tail (.tail (.head _ _)))) (G := [_, _, _, _, _, _, _, _]) rfl⟩
    )
theorem tally_5 {w0 : World} {H : List Chunk} (m : Int) (h : 0 ≤ m) (hm : m.tmod 8 = 5) : SC Try.prog w0 19 #[.int .i64 m] H (fun v H' => ∃ a c, v = .tuple #[.slice a 4 c, .int .i64 0] ∧ H' = .row a 4 c 5 1 ((tallyT 5).map (.int .u8)) :: H) := by
 refine SC.enter Try.func19 rfl (Nat.le_of_ble_eq_true rfl) ?_
 refine SW.seq_k ?_
 intro K0 hK0
 refine SW.region _ _ _ _ ?_
 refine RL.st ?_
 refine NV.p T ?_
 refine RL.st ?_
 refine NV.p T ?_
 refine RL.nil _ _ _ _ ?_
 refine hK0 _ _ _ ?_
 refine SW.seq_k ?_
 intro K1 hK1
 refine SW.seq_k ?_
 intro K2 hK2
 refine SW.region _ _ _ _ ?_
 refine RL.st ?_
 refine NV.p T ?_
 refine RL.st ?_
 refine NV.p T ?_
 refine RL.nil _ _ _ _ ?_
 refine hK2 _ _ _ ?_
 refine SW.cond rfl (fun hc0 => ?_) (fun hc0 => ?_)
 ·try simp only [decide_eq_true_eq, decide_eq_false_iff_not, Bool.not_eq_true', Bool.not_eq_false', Int.not_lt, Int.not_le, Int.toNat_natCast] at hc0
  first
   | (exfalso; clear hK2 K2; clear hK1 K1; clear hK0 K0; first | omega | contradiction)
   | (
    refine SW.seq_k ?_
    intro K3 hK3
    refine SW.region _ _ _ _ ?_
    refine RL.st ?_
    refine NV.p T ?_
    refine RL.st ?_
    refine NV.p T ?_
    refine RL.nil _ _ _ _ ?_
    refine hK3 _ _ _ ?_
    refine SW.ret ?_
    refine retQ.ret (RVs.tmp (by conv => lhs; whnf) (RVs.tmp (by conv => lhs; whnf) RVs.nil)) (fun w hw => hw) ?_
    clear hK3 K3 hK2 K2 hK1 K1 hK0 K0
    exact ⟨_, _, rfl, rfl⟩
    )
 ·try simp only [decide_eq_true_eq, decide_eq_false_iff_not, Bool.not_eq_true', Bool.not_eq_false', Int.not_lt, Int.not_le, Int.toNat_natCast] at hc0
  first
   | (exfalso; clear hK2 K2; clear hK1 K1; clear hK0 K0; first | omega | contradiction)
   | (
    refine SW.skip ?_
    refine hK1 _ _ _ ?_
    refine SW.seq_k ?_
    intro K4 hK4
    refine SW.region _ _ _ _ ?_
    refine RL.st ?_
    refine NV.p T ?_
    refine RL.st ?_
    refine NV.rem rfl rfl rfl (by omega) hm ?_
    refine RL.st ?_
    refine NV.p T ?_
    refine RL.nil _ _ _ _ ?_
    refine hK4 _ _ _ ?_
    refine SW.seq_k ?_
    intro K5 hK5
    refine SW.region _ _ _ _ ?_
    refine RL.st ?_
    refine NV.p T ?_
    refine RL.st ?_
    refine NV.p T ?_
    refine RL.st ?_
    refine NV.shift rfl rfl rfl (by omega) (.inr ⟨rfl, rfl⟩) ?_
    refine RL.st ?_
    refine NV.p T ?_
    refine RL.st ?_
    refine NV.p T ?_
    refine RL.nil _ _ _ _ ?_
    refine hK5 _ _ _ ?_
    refine SW.seq_k ?_
    intro K6 hK6
    refine SW.region _ _ _ _ ?_
    refine RL.st ?_
    refine NV.p T ?_
    refine RL.st ?_
    refine NV.p T ?_
    refine RL.st ?_
    refine NV.shift rfl rfl rfl (by omega) (.inr ⟨rfl, rfl⟩) ?_
    refine RL.st ?_
    refine NV.p T ?_
    refine RL.st ?_
    refine NV.p T ?_
    refine RL.st ?_
    refine NV.shift rfl rfl rfl (by omega) (.inr ⟨rfl, rfl⟩) ?_
    refine RL.st ?_
    refine NV.p T ?_
    refine RL.st ?_
    refine NV.p T ?_
    refine RL.st ?_
    refine NV.p T ?_
    refine RL.nil _ _ _ _ ?_
    refine hK6 _ _ _ ?_
    refine SW.seq_k ?_
    intro K7 hK7
    refine SW.region _ _ _ _ ?_
    refine RL.st ?_
    refine NV.p T ?_
    refine RL.st ?_
    refine NV.shift rfl rfl rfl (by omega) (.inl ⟨rfl, rfl⟩) ?_
    refine RL.st ?_
    refine NV.p T ?_
    refine RL.st ?_
    refine NV.p T ?_
    refine RL.st ?_
    refine NV.p T ?_
    refine RL.st ?_
    refine NV.call rfl rfl rfl fun33 rfl rfl (bput_ok 15 4 (by omega) (by omega) (by omega) (by decide)) ?_
    rintro _ _ ⟨ar, cr, rfl, e⟩; obtain rfl := e.symm
    refine RL.st ?_
    refine NV.p T ?_
    refine RL.st ?_
    refine NV.p T ?_
    refine RL.st ?_
    refine NV.p T ?_
    refine RL.st ?_
    refine NV.p T ?_
    refine RL.nil _ _ _ _ ?_
    refine hK7 _ _ _ ?_
    refine SW.ret ?_
    refine retQ.ret (RVs.tmp (by conv => lhs; whnf) (RVs.tmp (by conv => lhs; whnf) RVs.nil)) (fun w hw => hw) ?_
    clear hK7 K7 hK6 K6 hK5 K5 hK4 K4 hK2 K2 hK1 K1 hK0 K0
    exact ⟨_, _, rfl, rfl⟩
    )
theorem rtally_5 {w0 : World} {H : List Chunk} (m : Int) (h : 0 ≤ m) (hm : m.tmod 8 = 5) : SC Try.prog w0 20 #[.int .i64 m] H (fun v H' => RV w0 H (tallyT 5) 0 v H') := by
 refine SC.enter Try.func20 rfl (Nat.le_of_ble_eq_true rfl) ?_
 refine SW.seq_k ?_
 intro K0 hK0
 refine SW.region _ _ _ _ ?_
 refine RL.st ?_
 refine NV.p T ?_
 refine RL.st ?_
 refine NV.p T ?_
 refine RL.nil _ _ _ _ ?_
 refine hK0 _ _ _ ?_
 refine SW.seq_k ?_
 intro K1 hK1
 refine SW.seq_k ?_
 intro K2 hK2
 refine SW.region _ _ _ _ ?_
 refine RL.st ?_
 refine NV.p T ?_
 refine RL.st ?_
 refine NV.p T ?_
 refine RL.nil _ _ _ _ ?_
 refine hK2 _ _ _ ?_
 refine SW.cond rfl (fun hc0 => ?_) (fun hc0 => ?_)
 ·try simp only [decide_eq_true_eq, decide_eq_false_iff_not, Bool.not_eq_true', Bool.not_eq_false', Int.not_lt, Int.not_le, Int.toNat_natCast] at hc0
  first
   | (exfalso; clear hK2 K2; clear hK1 K1; clear hK0 K0; first | omega | contradiction)
   | (
    refine SW.seq_k ?_
    intro K3 hK3
    refine SW.region _ _ _ _ ?_
    refine RL.st ?_
    refine NV.p T ?_
    refine RL.st ?_
    refine NV.p T ?_
    refine RL.nil _ _ _ _ ?_
    refine hK3 _ _ _ ?_
    refine SW.sat (fun hs => ?_)
    refine SW.ret ?_
    refine retQ.ret (RVs.tmp (by conv => lhs; whnf) (RVs.tmp (by conv => lhs; whnf) RVs.nil)) (fun w hw => hw) ?_
    clear hK3 K3 hK2 K2 hK1 K1 hK0 K0
    exact ⟨_, rfl, Res.row (xs := tallyT 5) hs (.tail (.tail (.head _ _))) (G := [_, _, _, _, _, _, _, _]) rfl⟩
    )
 ·try simp only [decide_eq_true_eq, decide_eq_false_iff_not, Bool.not_eq_true', Bool.not_eq_false', Int.not_lt, Int.not_le, Int.toNat_natCast] at hc0
  first
   | (exfalso; clear hK2 K2; clear hK1 K1; clear hK0 K0; first | omega | contradiction)
   | (
    refine SW.skip ?_
    refine hK1 _ _ _ ?_
    refine SW.seq_k ?_
    intro K4 hK4
    refine SW.region _ _ _ _ ?_
    refine RL.st ?_
    refine NV.buildSlice T rfl rfl rfl (Nat.le_of_ble_eq_true rfl) (by exact (rfl : _ = some [_, _, _, _])) ?_
    intro b6_0
    refine RL.st ?_
    refine NV.buildSlice T rfl rfl rfl (Nat.le_of_ble_eq_true rfl) (by exact (rfl : _ = some [_, _, _, _])) ?_
    intro b7_1
    refine RL.st ?_
    refine NV.buildSlice T rfl rfl rfl (Nat.le_of_ble_eq_true rfl) (by exact (rfl : _ = some [_, _, _, _])) ?_
    intro b8_2
    refine RL.st ?_
    refine NV.buildSlice T rfl rfl rfl (Nat.le_of_ble_eq_true rfl) (by exact (rfl : _ = some [_, _, _, _])) ?_
    intro b9_3
    refine RL.st ?_
    refine NV.buildSlice T rfl rfl rfl (Nat.le_of_ble_eq_true rfl) (by exact (rfl : _ = some [_, _, _, _])) ?_
    intro b10_4
    refine RL.st ?_
    refine NV.buildSlice T rfl rfl rfl (Nat.le_of_ble_eq_true rfl) (by exact (rfl : _ = some [_, _, _, _])) ?_
    intro b11_5
    refine RL.st ?_
    refine NV.buildSlice T rfl rfl rfl (Nat.le_of_ble_eq_true rfl) (by exact (rfl : _ = some [_, _, _, _])) ?_
    intro b12_6
    refine RL.st ?_
    refine NV.buildSlice T rfl rfl rfl (Nat.le_of_ble_eq_true rfl) (by exact (rfl : _ = some [_, _, _, _])) ?_
    intro b13_7
    refine RL.st ?_
    first | refine NV.buildc T rfl (rfl : _ = some [_, _, _, _, _, _, _, _]) ?_ | refine NV.pure T (rfl : _ = some (Value.agg #[_, _, _, _, _, _, _, _])) ?_
    refine RL.st ?_
    refine NV.p T ?_
    refine RL.st ?_
    refine NV.rem rfl rfl rfl (by omega) hm ?_
    refine RL.st ?_
    refine NV.p T ?_
    refine RL.st ?_
    refine NV.p T ?_
    refine RL.st ?_
    refine NV.p T ?_
    refine RL.nil _ _ _ _ ?_
    refine hK4 _ _ _ ?_
    refine SW.sat (fun hs => ?_)
    refine SW.ret ?_
    refine retQ.ret (RVs.tmp (by conv => lhs; whnf) (RVs.tmp (by conv => lhs; whnf) RVs.nil)) (fun w hw => hw) ?_
    clear hK4 K4 hK2 K2 hK1 K1 hK0 K0
    exact ⟨_, rfl, Res.row (xs := tallyT 5) hs (.tail (.tail (.head _ _))) (G := [_, _, _, _, _, _, _, _]) rfl⟩
    )
theorem tally_6 {w0 : World} {H : List Chunk} (m : Int) (h : 0 ≤ m) (hm : m.tmod 8 = 6) : SC Try.prog w0 19 #[.int .i64 m] H (fun v H' => ∃ a c, v = .tuple #[.slice a 4 c, .int .i64 0] ∧ H' = .row a 4 c 5 1 ((tallyT 6).map (.int .u8)) :: H) := by
 refine SC.enter Try.func19 rfl (Nat.le_of_ble_eq_true rfl) ?_
 refine SW.seq_k ?_
 intro K0 hK0
 refine SW.region _ _ _ _ ?_
 refine RL.st ?_
 refine NV.p T ?_
 refine RL.st ?_
 refine NV.p T ?_
 refine RL.nil _ _ _ _ ?_
 refine hK0 _ _ _ ?_
 refine SW.seq_k ?_
 intro K1 hK1
 refine SW.seq_k ?_
 intro K2 hK2
 refine SW.region _ _ _ _ ?_
 refine RL.st ?_
 refine NV.p T ?_
 refine RL.st ?_
 refine NV.p T ?_
 refine RL.nil _ _ _ _ ?_
 refine hK2 _ _ _ ?_
 refine SW.cond rfl (fun hc0 => ?_) (fun hc0 => ?_)
 ·try simp only [decide_eq_true_eq, decide_eq_false_iff_not, Bool.not_eq_true', Bool.not_eq_false', Int.not_lt, Int.not_le, Int.toNat_natCast] at hc0
  first
   | (exfalso; clear hK2 K2; clear hK1 K1; clear hK0 K0; first | omega | contradiction)
   | (
    refine SW.seq_k ?_
    intro K3 hK3
    refine SW.region _ _ _ _ ?_
    refine RL.st ?_
    refine NV.p T ?_
    refine RL.st ?_
    refine NV.p T ?_
    refine RL.nil _ _ _ _ ?_
    refine hK3 _ _ _ ?_
    refine SW.ret ?_
    refine retQ.ret (RVs.tmp (by conv => lhs; whnf) (RVs.tmp (by conv => lhs; whnf) RVs.nil)) (fun w hw => hw) ?_
    clear hK3 K3 hK2 K2 hK1 K1 hK0 K0
    exact ⟨_, _, rfl, rfl⟩
    )
 ·try simp only [decide_eq_true_eq, decide_eq_false_iff_not, Bool.not_eq_true', Bool.not_eq_false', Int.not_lt, Int.not_le, Int.toNat_natCast] at hc0
  first
   | (exfalso; clear hK2 K2; clear hK1 K1; clear hK0 K0; first | omega | contradiction)
   | (
    refine SW.skip ?_
    refine hK1 _ _ _ ?_
    refine SW.seq_k ?_
    intro K4 hK4
    refine SW.region _ _ _ _ ?_
    refine RL.st ?_
    refine NV.p T ?_
    refine RL.st ?_
    refine NV.rem rfl rfl rfl (by omega) hm ?_
    refine RL.st ?_
    refine NV.p T ?_
    refine RL.nil _ _ _ _ ?_
    refine hK4 _ _ _ ?_
    refine SW.seq_k ?_
    intro K5 hK5
    refine SW.region _ _ _ _ ?_
    refine RL.st ?_
    refine NV.p T ?_
    refine RL.st ?_
    refine NV.p T ?_
    refine RL.st ?_
    refine NV.shift rfl rfl rfl (by omega) (.inr ⟨rfl, rfl⟩) ?_
    refine RL.st ?_
    refine NV.p T ?_
    refine RL.st ?_
    refine NV.p T ?_
    refine RL.nil _ _ _ _ ?_
    refine hK5 _ _ _ ?_
    refine SW.seq_k ?_
    intro K6 hK6
    refine SW.region _ _ _ _ ?_
    refine RL.st ?_
    refine NV.p T ?_
    refine RL.st ?_
    refine NV.p T ?_
    refine RL.st ?_
    refine NV.shift rfl rfl rfl (by omega) (.inr ⟨rfl, rfl⟩) ?_
    refine RL.st ?_
    refine NV.p T ?_
    refine RL.st ?_
    refine NV.p T ?_
    refine RL.st ?_
    refine NV.shift rfl rfl rfl (by omega) (.inr ⟨rfl, rfl⟩) ?_
    refine RL.st ?_
    refine NV.p T ?_
    refine RL.st ?_
    refine NV.p T ?_
    refine RL.st ?_
    refine NV.p T ?_
    refine RL.nil _ _ _ _ ?_
    refine hK6 _ _ _ ?_
    refine SW.seq_k ?_
    intro K7 hK7
    refine SW.region _ _ _ _ ?_
    refine RL.st ?_
    refine NV.p T ?_
    refine RL.st ?_
    refine NV.shift rfl rfl rfl (by omega) (.inl ⟨rfl, rfl⟩) ?_
    refine RL.st ?_
    refine NV.p T ?_
    refine RL.st ?_
    refine NV.p T ?_
    refine RL.st ?_
    refine NV.p T ?_
    refine RL.st ?_
    refine NV.call rfl rfl rfl fun33 rfl rfl (bput_ok 10 4 (by omega) (by omega) (by omega) (by decide)) ?_
    rintro _ _ ⟨ar, cr, rfl, e⟩; obtain rfl := e.symm
    refine RL.st ?_
    refine NV.p T ?_
    refine RL.st ?_
    refine NV.p T ?_
    refine RL.st ?_
    refine NV.p T ?_
    refine RL.st ?_
    refine NV.p T ?_
    refine RL.nil _ _ _ _ ?_
    refine hK7 _ _ _ ?_
    refine SW.ret ?_
    refine retQ.ret (RVs.tmp (by conv => lhs; whnf) (RVs.tmp (by conv => lhs; whnf) RVs.nil)) (fun w hw => hw) ?_
    clear hK7 K7 hK6 K6 hK5 K5 hK4 K4 hK2 K2 hK1 K1 hK0 K0
    exact ⟨_, _, rfl, rfl⟩
    )
theorem rtally_6 {w0 : World} {H : List Chunk} (m : Int) (h : 0 ≤ m) (hm : m.tmod 8 = 6) : SC Try.prog w0 20 #[.int .i64 m] H (fun v H' => RV w0 H (tallyT 6) 0 v H') := by
 refine SC.enter Try.func20 rfl (Nat.le_of_ble_eq_true rfl) ?_
 refine SW.seq_k ?_
 intro K0 hK0
 refine SW.region _ _ _ _ ?_
 refine RL.st ?_
 refine NV.p T ?_
 refine RL.st ?_
 refine NV.p T ?_
 refine RL.nil _ _ _ _ ?_
 refine hK0 _ _ _ ?_
 refine SW.seq_k ?_
 intro K1 hK1
 refine SW.seq_k ?_
 intro K2 hK2
 refine SW.region _ _ _ _ ?_
 refine RL.st ?_
 refine NV.p T ?_
 refine RL.st ?_
 refine NV.p T ?_
 refine RL.nil _ _ _ _ ?_
 refine hK2 _ _ _ ?_
 refine SW.cond rfl (fun hc0 => ?_) (fun hc0 => ?_)
 ·try simp only [decide_eq_true_eq, decide_eq_false_iff_not, Bool.not_eq_true', Bool.not_eq_false', Int.not_lt, Int.not_le, Int.toNat_natCast] at hc0
  first
   | (exfalso; clear hK2 K2; clear hK1 K1; clear hK0 K0; first | omega | contradiction)
   | (
    refine SW.seq_k ?_
    intro K3 hK3
    refine SW.region _ _ _ _ ?_
    refine RL.st ?_
    refine NV.p T ?_
    refine RL.st ?_
    refine NV.p T ?_
    refine RL.nil _ _ _ _ ?_
    refine hK3 _ _ _ ?_
    refine SW.sat (fun hs => ?_)
    refine SW.ret ?_
    refine retQ.ret (RVs.tmp (by conv => lhs; whnf) (RVs.tmp (by conv => lhs; whnf) RVs.nil)) (fun w hw => hw) ?_
    clear hK3 K3 hK2 K2 hK1 K1 hK0 K0
    exact ⟨_, rfl, Res.row (xs := tallyT 6) hs (.tail (.head _ _)) (G := [_, _, _, _, _, _, _, _]) rfl⟩
    )
 ·try simp only [decide_eq_true_eq, decide_eq_false_iff_not, Bool.not_eq_true', Bool.not_eq_false', Int.not_lt, Int.not_le, Int.toNat_natCast] at hc0
  first
   | (exfalso; clear hK2 K2; clear hK1 K1; clear hK0 K0; first | omega | contradiction)
   | (
    refine SW.skip ?_
    refine hK1 _ _ _ ?_
    refine SW.seq_k ?_
    intro K4 hK4
    refine SW.region _ _ _ _ ?_
    refine RL.st ?_
    refine NV.buildSlice T rfl rfl rfl (Nat.le_of_ble_eq_true rfl) (by exact (rfl : _ = some [_, _, _, _])) ?_
    intro b6_0
    refine RL.st ?_
    refine NV.buildSlice T rfl rfl rfl (Nat.le_of_ble_eq_true rfl) (by exact (rfl : _ = some [_, _, _, _])) ?_
    intro b7_1
    refine RL.st ?_
    refine NV.buildSlice T rfl rfl rfl (Nat.le_of_ble_eq_true rfl) (by exact (rfl : _ = some [_, _, _, _])) ?_
    intro b8_2
    refine RL.st ?_
    refine NV.buildSlice T rfl rfl rfl (Nat.le_of_ble_eq_true rfl) (by exact (rfl : _ = some [_, _, _, _])) ?_
    intro b9_3
    refine RL.st ?_
    refine NV.buildSlice T rfl rfl rfl (Nat.le_of_ble_eq_true rfl) (by exact (rfl : _ = some [_, _, _, _])) ?_
    intro b10_4
    refine RL.st ?_
    refine NV.buildSlice T rfl rfl rfl (Nat.le_of_ble_eq_true rfl) (by exact (rfl : _ = some [_, _, _, _])) ?_
    intro b11_5
    refine RL.st ?_
    refine NV.buildSlice T rfl rfl rfl (Nat.le_of_ble_eq_true rfl) (by exact (rfl : _ = some [_, _, _, _])) ?_
    intro b12_6
    refine RL.st ?_
    refine NV.buildSlice T rfl rfl rfl (Nat.le_of_ble_eq_true rfl) (by exact (rfl : _ = some [_, _, _, _])) ?_
    intro b13_7
    refine RL.st ?_
    first | refine NV.buildc T rfl (rfl : _ = some [_, _, _, _, _, _, _, _]) ?_ | refine NV.pure T (rfl : _ = some (Value.agg #[_, _, _, _, _, _, _, _])) ?_
    refine RL.st ?_
    refine NV.p T ?_
    refine RL.st ?_
    refine NV.rem rfl rfl rfl (by omega) hm ?_
    refine RL.st ?_
    refine NV.p T ?_
    refine RL.st ?_
    refine NV.p T ?_
    refine RL.st ?_
    refine NV.p T ?_
    refine RL.nil _ _ _ _ ?_
    refine hK4 _ _ _ ?_
    refine SW.sat (fun hs => ?_)
    refine SW.ret ?_
    refine retQ.ret (RVs.tmp (by conv => lhs; whnf) (RVs.tmp (by conv => lhs; whnf) RVs.nil)) (fun w hw => hw) ?_
    clear hK4 K4 hK2 K2 hK1 K1 hK0 K0
    exact ⟨_, rfl, Res.row (xs := tallyT 6) hs (.tail (.head _ _)) (G := [_, _, _, _, _, _, _, _]) rfl⟩
    )
theorem tally_7 {w0 : World} {H : List Chunk} (m : Int) (h : 0 ≤ m) (hm : m.tmod 8 = 7) : SC Try.prog w0 19 #[.int .i64 m] H (fun v H' => ∃ a c, v = .tuple #[.slice a 4 c, .int .i64 0] ∧ H' = .row a 4 c 5 1 ((tallyT 7).map (.int .u8)) :: H) := by
 refine SC.enter Try.func19 rfl (Nat.le_of_ble_eq_true rfl) ?_
 refine SW.seq_k ?_
 intro K0 hK0
 refine SW.region _ _ _ _ ?_
 refine RL.st ?_
 refine NV.p T ?_
 refine RL.st ?_
 refine NV.p T ?_
 refine RL.nil _ _ _ _ ?_
 refine hK0 _ _ _ ?_
 refine SW.seq_k ?_
 intro K1 hK1
 refine SW.seq_k ?_
 intro K2 hK2
 refine SW.region _ _ _ _ ?_
 refine RL.st ?_
 refine NV.p T ?_
 refine RL.st ?_
 refine NV.p T ?_
 refine RL.nil _ _ _ _ ?_
 refine hK2 _ _ _ ?_
 refine SW.cond rfl (fun hc0 => ?_) (fun hc0 => ?_)
 ·try simp only [decide_eq_true_eq, decide_eq_false_iff_not, Bool.not_eq_true', Bool.not_eq_false', Int.not_lt, Int.not_le, Int.toNat_natCast] at hc0
  first
   | (exfalso; clear hK2 K2; clear hK1 K1; clear hK0 K0; first | omega | contradiction)
   | (
    refine SW.seq_k ?_
    intro K3 hK3
    refine SW.region _ _ _ _ ?_
    refine RL.st ?_
    refine NV.p T ?_
    refine RL.st ?_
    refine NV.p T ?_
    refine RL.nil _ _ _ _ ?_
    refine hK3 _ _ _ ?_
    refine SW.ret ?_
    refine retQ.ret (RVs.tmp (by conv => lhs; whnf) (RVs.tmp (by conv => lhs; whnf) RVs.nil)) (fun w hw => hw) ?_
    clear hK3 K3 hK2 K2 hK1 K1 hK0 K0
    exact ⟨_, _, rfl, rfl⟩
    )
 ·try simp only [decide_eq_true_eq, decide_eq_false_iff_not, Bool.not_eq_true', Bool.not_eq_false', Int.not_lt, Int.not_le, Int.toNat_natCast] at hc0
  first
   | (exfalso; clear hK2 K2; clear hK1 K1; clear hK0 K0; first | omega | contradiction)
   | (
    refine SW.skip ?_
    refine hK1 _ _ _ ?_
    refine SW.seq_k ?_
    intro K4 hK4
    refine SW.region _ _ _ _ ?_
    refine RL.st ?_
    refine NV.p T ?_
    refine RL.st ?_
    refine NV.rem rfl rfl rfl (by omega) hm ?_
    refine RL.st ?_
    refine NV.p T ?_
    refine RL.nil _ _ _ _ ?_
    refine hK4 _ _ _ ?_
    refine SW.seq_k ?_
    intro K5 hK5
    refine SW.region _ _ _ _ ?_
    refine RL.st ?_
    refine NV.p T ?_
    refine RL.st ?_
    refine NV.p T ?_
    refine RL.st ?_
    refine NV.shift rfl rfl rfl (by omega) (.inr ⟨rfl, rfl⟩) ?_
    refine RL.st ?_
    refine NV.p T ?_
    refine RL.st ?_
    refine NV.p T ?_
    refine RL.nil _ _ _ _ ?_
    refine hK5 _ _ _ ?_
    refine SW.seq_k ?_
    intro K6 hK6
    refine SW.region _ _ _ _ ?_
    refine RL.st ?_
    refine NV.p T ?_
    refine RL.st ?_
    refine NV.p T ?_
    refine RL.st ?_
    refine NV.shift rfl rfl rfl (by omega) (.inr ⟨rfl, rfl⟩) ?_
    refine RL.st ?_
    refine NV.p T ?_
    refine RL.st ?_
    refine NV.p T ?_
    refine RL.st ?_
    refine NV.shift rfl rfl rfl (by omega) (.inr ⟨rfl, rfl⟩) ?_
    refine RL.st ?_
    refine NV.p T ?_
    refine RL.st ?_
    refine NV.p T ?_
    refine RL.st ?_
    refine NV.p T ?_
    refine RL.nil _ _ _ _ ?_
    refine hK6 _ _ _ ?_
    refine SW.seq_k ?_
    intro K7 hK7
    refine SW.region _ _ _ _ ?_
    refine RL.st ?_
    refine NV.p T ?_
    refine RL.st ?_
    refine NV.shift rfl rfl rfl (by omega) (.inl ⟨rfl, rfl⟩) ?_
    refine RL.st ?_
    refine NV.p T ?_
    refine RL.st ?_
    refine NV.p T ?_
    refine RL.st ?_
    refine NV.p T ?_
    refine RL.st ?_
    refine NV.call rfl rfl rfl fun33 rfl rfl (bput_ok 9 4 (by omega) (by omega) (by omega) (by decide)) ?_
    rintro _ _ ⟨ar, cr, rfl, e⟩; obtain rfl := e.symm
    refine RL.st ?_
    refine NV.p T ?_
    refine RL.st ?_
    refine NV.p T ?_
    refine RL.st ?_
    refine NV.p T ?_
    refine RL.st ?_
    refine NV.p T ?_
    refine RL.nil _ _ _ _ ?_
    refine hK7 _ _ _ ?_
    refine SW.ret ?_
    refine retQ.ret (RVs.tmp (by conv => lhs; whnf) (RVs.tmp (by conv => lhs; whnf) RVs.nil)) (fun w hw => hw) ?_
    clear hK7 K7 hK6 K6 hK5 K5 hK4 K4 hK2 K2 hK1 K1 hK0 K0
    exact ⟨_, _, rfl, rfl⟩
    )
theorem rtally_7 {w0 : World} {H : List Chunk} (m : Int) (h : 0 ≤ m) (hm : m.tmod 8 = 7) : SC Try.prog w0 20 #[.int .i64 m] H (fun v H' => RV w0 H (tallyT 7) 0 v H') := by
 refine SC.enter Try.func20 rfl (Nat.le_of_ble_eq_true rfl) ?_
 refine SW.seq_k ?_
 intro K0 hK0
 refine SW.region _ _ _ _ ?_
 refine RL.st ?_
 refine NV.p T ?_
 refine RL.st ?_
 refine NV.p T ?_
 refine RL.nil _ _ _ _ ?_
 refine hK0 _ _ _ ?_
 refine SW.seq_k ?_
 intro K1 hK1
 refine SW.seq_k ?_
 intro K2 hK2
 refine SW.region _ _ _ _ ?_
 refine RL.st ?_
 refine NV.p T ?_
 refine RL.st ?_
 refine NV.p T ?_
 refine RL.nil _ _ _ _ ?_
 refine hK2 _ _ _ ?_
 refine SW.cond rfl (fun hc0 => ?_) (fun hc0 => ?_)
 ·try simp only [decide_eq_true_eq, decide_eq_false_iff_not, Bool.not_eq_true', Bool.not_eq_false', Int.not_lt, Int.not_le, Int.toNat_natCast] at hc0
  first
   | (exfalso; clear hK2 K2; clear hK1 K1; clear hK0 K0; first | omega | contradiction)
   | (
    refine SW.seq_k ?_
    intro K3 hK3
    refine SW.region _ _ _ _ ?_
    refine RL.st ?_
    refine NV.p T ?_
    refine RL.st ?_
    refine NV.p T ?_
    refine RL.nil _ _ _ _ ?_
    refine hK3 _ _ _ ?_
    refine SW.sat (fun hs => ?_)
    refine SW.ret ?_
    refine retQ.ret (RVs.tmp (by conv => lhs; whnf) (RVs.tmp (by conv => lhs; whnf) RVs.nil)) (fun w hw => hw) ?_
    clear hK3 K3 hK2 K2 hK1 K1 hK0 K0
    exact ⟨_, rfl, Res.row (xs := tallyT 7) hs (.head _ _) (G := [_, _, _, _, _, _, _, _]) rfl⟩
    )
 ·try simp only [decide_eq_true_eq, decide_eq_false_iff_not, Bool.not_eq_true', Bool.not_eq_false', Int.not_lt, Int.not_le, Int.toNat_natCast] at hc0
  first
   | (exfalso; clear hK2 K2; clear hK1 K1; clear hK0 K0; first | omega | contradiction)
   | (
    refine SW.skip ?_
    refine hK1 _ _ _ ?_
    refine SW.seq_k ?_
    intro K4 hK4
    refine SW.region _ _ _ _ ?_
    refine RL.st ?_
    refine NV.buildSlice T rfl rfl rfl (Nat.le_of_ble_eq_true rfl) (by exact (rfl : _ = some [_, _, _, _])) ?_
    intro b6_0
    refine RL.st ?_
    refine NV.buildSlice T rfl rfl rfl (Nat.le_of_ble_eq_true rfl) (by exact (rfl : _ = some [_, _, _, _])) ?_
    intro b7_1
    refine RL.st ?_
    refine NV.buildSlice T rfl rfl rfl (Nat.le_of_ble_eq_true rfl) (by exact (rfl : _ = some [_, _, _, _])) ?_
    intro b8_2
    refine RL.st ?_
    refine NV.buildSlice T rfl rfl rfl (Nat.le_of_ble_eq_true rfl) (by exact (rfl : _ = some [_, _, _, _])) ?_
    intro b9_3
    refine RL.st ?_
    refine NV.buildSlice T rfl rfl rfl (Nat.le_of_ble_eq_true rfl) (by exact (rfl : _ = some [_, _, _, _])) ?_
    intro b10_4
    refine RL.st ?_
    refine NV.buildSlice T rfl rfl rfl (Nat.le_of_ble_eq_true rfl) (by exact (rfl : _ = some [_, _, _, _])) ?_
    intro b11_5
    refine RL.st ?_
    refine NV.buildSlice T rfl rfl rfl (Nat.le_of_ble_eq_true rfl) (by exact (rfl : _ = some [_, _, _, _])) ?_
    intro b12_6
    refine RL.st ?_
    refine NV.buildSlice T rfl rfl rfl (Nat.le_of_ble_eq_true rfl) (by exact (rfl : _ = some [_, _, _, _])) ?_
    intro b13_7
    refine RL.st ?_
    first | refine NV.buildc T rfl (rfl : _ = some [_, _, _, _, _, _, _, _]) ?_ | refine NV.pure T (rfl : _ = some (Value.agg #[_, _, _, _, _, _, _, _])) ?_
    refine RL.st ?_
    refine NV.p T ?_
    refine RL.st ?_
    refine NV.rem rfl rfl rfl (by omega) hm ?_
    refine RL.st ?_
    refine NV.p T ?_
    refine RL.st ?_
    refine NV.p T ?_
    refine RL.st ?_
    refine NV.p T ?_
    refine RL.nil _ _ _ _ ?_
    refine hK4 _ _ _ ?_
    refine SW.sat (fun hs => ?_)
    refine SW.ret ?_
    refine retQ.ret (RVs.tmp (by conv => lhs; whnf) (RVs.tmp (by conv => lhs; whnf) RVs.nil)) (fun w hw => hw) ?_
    clear hK4 K4 hK2 K2 hK1 K1 hK0 K0
    exact ⟨_, rfl, Res.row (xs := tallyT 7) hs (.head _ _) (G := [_, _, _, _, _, _, _, _]) rfl⟩
    )
theorem eight {m : Int} (h : 0 ≤ m) : m.tmod 8 = 0 ∨ m.tmod 8 = 1 ∨ m.tmod 8 = 2 ∨ m.tmod 8 = 3 ∨ m.tmod 8 = 4 ∨ m.tmod 8 = 5 ∨ m.tmod 8 = 6 ∨ m.tmod 8 = 7 := by rw [Int.tmod_eq_emod_of_nonneg h]; omega
theorem tally {w0 : World} {H : List Chunk} (m : Int) (h : 0 ≤ m) : SC Try.prog w0 19 #[.int .i64 m] H (fun v H' => ∃ a c, v = .tuple #[.slice a 4 c, .int .i64 0] ∧ H' = .row a 4 c 5 1 ((tallyT (m.tmod 8).toNat).map (.int .u8)) :: H) := by
  rcases eight h with e | e | e | e | e | e | e | e <;> rw [e]
  · exact tally_0 m h e
  · exact tally_1 m h e
  · exact tally_2 m h e
  · exact tally_3 m h e
  · exact tally_4 m h e
  · exact tally_5 m h e
  · exact tally_6 m h e
  · exact tally_7 m h e
theorem rtally {w0 : World} {H : List Chunk} (m : Int) (h : 0 ≤ m) : SC Try.prog w0 20 #[.int .i64 m] H (fun v H' => RV w0 H (tallyT (m.tmod 8).toNat) 0 v H') := by
  rcases eight h with e | e | e | e | e | e | e | e <;> rw [e]
  · exact rtally_0 m h e
  · exact rtally_1 m h e
  · exact rtally_2 m h e
  · exact rtally_3 m h e
  · exact rtally_4 m h e
  · exact rtally_5 m h e
  · exact rtally_6 m h e
  · exact rtally_7 m h e
theorem rtells_bad {w0 : World} {H : List Chunk} (sa : Option Addr) (n c : Nat) (es : List Int) (hR : Rd w0 H sa n c 1 (es.map (.int .u8))) (hn : n = es.length) (hm : n ≤ 140737488351232) (h : es.length ≠ 4 ∨ chk es ≠ 0) : SC Try.prog w0 22 #[.slice sa n c] H (fun v H' => v = .tuple #[.int .i64 0, .int .i64 2] ∧ H' = H) := by
 refine SC.enter Try.func22 rfl (Nat.le_of_ble_eq_true rfl) ?_
 refine SW.seq_k ?_
 intro K0 hK0
 refine SW.region _ _ _ _ ?_
 refine RL.st ?_
 refine NV.p T ?_
 refine RL.st ?_
 refine NV.p T ?_
 refine RL.nil _ _ _ _ ?_
 refine hK0 _ _ _ ?_
 refine SW.seq_k ?_
 intro K1 hK1
 refine SW.seq_k ?_
 intro K2 hK2
 refine SW.region _ _ _ _ ?_
 refine RL.st ?_
 refine NV.p T ?_
 refine RL.st ?_
 refine NV.p T ?_
 refine RL.st ?_
 refine NV.p T ?_
 refine RL.st ?_
 refine NV.p T ?_
 refine RL.split 10 rfl (fun hs0 => ?_) (fun hs0 => ?_)
 ·try simp only [decide_eq_true_eq, decide_eq_false_iff_not, Bool.not_eq_true', Bool.not_eq_false', Int.not_lt, Int.not_le, Int.toNat_natCast] at hs0
  first
   | (exfalso; clear hK2 K2; clear hK1 K1; clear hK0 K0; first | omega | contradiction)
   | (
    refine RL.guard_no rfl rfl rfl ?_
    refine RL.guard_no rfl rfl rfl ?_
    refine RL.guard_no rfl rfl rfl ?_
    refine RL.st ?_
    refine NV.p T ?_
    refine RL.nil _ _ _ _ ?_
    refine hK2 _ _ _ ?_
    refine SW.cond_t rfl ?_
    refine SW.seq_k ?_
    intro K3 hK3
    refine SW.region _ _ _ _ ?_
    refine RL.st ?_
    refine NV.p T ?_
    refine RL.st ?_
    refine NV.p T ?_
    refine RL.nil _ _ _ _ ?_
    refine hK3 _ _ _ ?_
    refine SW.ret ?_
    refine retQ.ret (H' := H) (RVs.tmp (by conv => lhs; whnf) (RVs.tmp (by conv => lhs; whnf) RVs.nil)) (fun w hw => Sat.sub (by repeat first | exact List.Sublist.refl _ | apply List.Sublist.cons_cons | apply List.Sublist.cons | exact List.sublist_append_right _ _ | refine List.Sublist.trans ?_ (List.sublist_append_right _ _)) hw) ?_
    clear hK3 K3 hK2 K2 hK1 K1 hK0 K0
    exact ⟨rfl, rfl⟩
    )
 ·try simp only [decide_eq_true_eq, decide_eq_false_iff_not, Bool.not_eq_true', Bool.not_eq_false', Int.not_lt, Int.not_le, Int.toNat_natCast] at hs0
  first
   | (exfalso; clear hK2 K2; clear hK1 K1; clear hK0 K0; first | omega | contradiction)
   | (
    refine RL.st ?_
    refine NV.p T ?_
    refine RL.st ?_
    refine NV.call rfl rfl rfl fun30 rfl rfl (rcheck sa n c es hR hn hm) ?_
    rintro _ _ ⟨rfl, e⟩; obtain rfl := e.symm
    refine RL.st ?_
    refine NV.p T ?_
    refine RL.st ?_
    refine NV.p T ?_
    refine RL.nil _ _ _ _ ?_
    refine hK2 _ _ _ ?_
    refine SW.cond rfl (fun hc0 => ?_) (fun hc0 => ?_)
    ·try simp only [decide_eq_true_eq, decide_eq_false_iff_not, Bool.not_eq_true', Bool.not_eq_false', Int.not_lt, Int.not_le, Int.toNat_natCast] at hc0
     first
      | (exfalso; clear hK2 K2; clear hK1 K1; clear hK0 K0; first | omega | contradiction)
      | (
       refine SW.seq_k ?_
       intro K4 hK4
       refine SW.region _ _ _ _ ?_
       refine RL.st ?_
       refine NV.p T ?_
       refine RL.st ?_
       refine NV.p T ?_
       refine RL.nil _ _ _ _ ?_
       refine hK4 _ _ _ ?_
       refine SW.ret ?_
       refine retQ.ret (H' := H) (RVs.tmp (by conv => lhs; whnf) (RVs.tmp (by conv => lhs; whnf) RVs.nil)) (fun w hw => Sat.sub (by repeat first | exact List.Sublist.refl _ | apply List.Sublist.cons_cons | apply List.Sublist.cons | exact List.sublist_append_right _ _ | refine List.Sublist.trans ?_ (List.sublist_append_right _ _)) hw) ?_
       clear hK4 K4 hK2 K2 hK1 K1 hK0 K0
       exact ⟨rfl, rfl⟩
       )
    ·try simp only [decide_eq_true_eq, decide_eq_false_iff_not, Bool.not_eq_true', Bool.not_eq_false', Int.not_lt, Int.not_le, Int.toNat_natCast] at hc0
     exfalso; clear hK2 K2; clear hK1 K1; clear hK0 K0; first | omega | contradiction
    )
theorem rtells_ok {w0 : World} {H : List Chunk} (sa : Option Addr) (n c : Nat) (es : List Int) (hR : Rd w0 H sa n c 1 (es.map (.int .u8))) (hn : n = es.length) (hm : n ≤ 140737488351232) (h4 : es.length = 4) (hc : chk es = 0) : SC Try.prog w0 22 #[.slice sa n c] H (fun v H' => v = .tuple #[.int .i64 (tellsV es).1, .int .i64 (tellsV es).2] ∧ H' = H) := by
 refine SC.enter Try.func22 rfl (Nat.le_of_ble_eq_true rfl) ?_
 refine SW.seq_k ?_
 intro K0 hK0
 refine SW.region _ _ _ _ ?_
 refine RL.st ?_
 refine NV.p T ?_
 refine RL.st ?_
 refine NV.p T ?_
 refine RL.nil _ _ _ _ ?_
 refine hK0 _ _ _ ?_
 refine SW.seq_k ?_
 intro K1 hK1
 refine SW.seq_k ?_
 intro K2 hK2
 refine SW.region _ _ _ _ ?_
 refine RL.st ?_
 refine NV.p T ?_
 refine RL.st ?_
 refine NV.p T ?_
 refine RL.st ?_
 refine NV.p T ?_
 refine RL.st ?_
 refine NV.p T ?_
 refine RL.split 10 rfl (fun hs0 => ?_) (fun hs0 => ?_)
 ·try simp only [decide_eq_true_eq, decide_eq_false_iff_not, Bool.not_eq_true', Bool.not_eq_false', Int.not_lt, Int.not_le, Int.toNat_natCast] at hs0
  first
   | (exfalso; clear hK2 K2; clear hK1 K1; clear hK0 K0; first | omega | contradiction)
   | (
    refine RL.guard_no rfl rfl rfl ?_
    refine RL.guard_no rfl rfl rfl ?_
    refine RL.guard_no rfl rfl rfl ?_
    refine RL.st ?_
    refine NV.p T ?_
    refine RL.nil _ _ _ _ ?_
    refine hK2 _ _ _ ?_
    refine SW.cond_t rfl ?_
    refine SW.seq_k ?_
    intro K3 hK3
    refine SW.region _ _ _ _ ?_
    refine RL.st ?_
    refine NV.p T ?_
    refine RL.st ?_
    refine NV.p T ?_
    refine RL.nil _ _ _ _ ?_
    refine hK3 _ _ _ ?_
    refine SW.ret ?_
    refine retQ.ret (H' := H) (RVs.tmp (by conv => lhs; whnf) (RVs.tmp (by conv => lhs; whnf) RVs.nil)) (fun w hw => Sat.sub (by repeat first | exact List.Sublist.refl _ | apply List.Sublist.cons_cons | apply List.Sublist.cons | exact List.sublist_append_right _ _ | refine List.Sublist.trans ?_ (List.sublist_append_right _ _)) hw) ?_
    clear hK3 K3 hK2 K2 hK1 K1 hK0 K0
    refine ⟨?_, rfl⟩
    unfold tellsV
    rw [if_pos ⟨h4, hc⟩]
    first
      | (rw [tellsT_some hI (by omega) (by assumption)]; rfl)
      | (rw [tellsT_none (fun j hj => hI j (by omega))]; rfl)
    )
 ·try simp only [decide_eq_true_eq, decide_eq_false_iff_not, Bool.not_eq_true', Bool.not_eq_false', Int.not_lt, Int.not_le, Int.toNat_natCast] at hs0
  first
   | (exfalso; clear hK2 K2; clear hK1 K1; clear hK0 K0; first | omega | contradiction)
   | (
    refine RL.st ?_
    refine NV.p T ?_
    refine RL.st ?_
    refine NV.call rfl rfl rfl fun30 rfl rfl ((rcheck sa n c es hR hn hm).mono (fun v H' h => by rw [hc] at h; exact h)) ?_
    rintro _ _ ⟨rfl, e⟩; obtain rfl := e.symm
    refine RL.st ?_
    refine NV.p T ?_
    refine RL.st ?_
    refine NV.p T ?_
    refine RL.nil _ _ _ _ ?_
    refine hK2 _ _ _ ?_
    refine SW.cond rfl (fun hc0 => ?_) (fun hc0 => ?_)
    ·try simp only [decide_eq_true_eq, decide_eq_false_iff_not, Bool.not_eq_true', Bool.not_eq_false', Int.not_lt, Int.not_le, Int.toNat_natCast] at hc0
     first
      | (exfalso; clear hK2 K2; clear hK1 K1; clear hK0 K0; first | omega | contradiction)
      | (
       refine SW.seq_k ?_
       intro K4 hK4
       refine SW.region _ _ _ _ ?_
       refine RL.st ?_
       refine NV.p T ?_
       refine RL.st ?_
       refine NV.p T ?_
       refine RL.nil _ _ _ _ ?_
       refine hK4 _ _ _ ?_
       refine SW.ret ?_
       refine retQ.ret (H' := H) (RVs.tmp (by conv => lhs; whnf) (RVs.tmp (by conv => lhs; whnf) RVs.nil)) (fun w hw => Sat.sub (by repeat first | exact List.Sublist.refl _ | apply List.Sublist.cons_cons | apply List.Sublist.cons | exact List.sublist_append_right _ _ | refine List.Sublist.trans ?_ (List.sublist_append_right _ _)) hw) ?_
       clear hK4 K4 hK2 K2 hK1 K1 hK0 K0
       refine ⟨?_, rfl⟩
       unfold tellsV
       rw [if_pos ⟨h4, hc⟩]
       first
         | (rw [tellsT_some hI (by omega) (by assumption)]; rfl)
         | (rw [tellsT_none (fun j hj => hI j (by omega))]; rfl)
       )
    ·try simp only [decide_eq_true_eq, decide_eq_false_iff_not, Bool.not_eq_true', Bool.not_eq_false', Int.not_lt, Int.not_le, Int.toNat_natCast] at hc0
     first
      | (exfalso; clear hK2 K2; clear hK1 K1; clear hK0 K0; first | omega | contradiction)
      | (
       refine SW.skip ?_
       refine hK1 _ _ _ ?_
       refine SW.seq_k ?_
       intro K5 hK5
       refine SW.seq_k ?_
       intro K6 hK6
       refine SW.region _ _ _ _ ?_
       refine RL.st ?_
       refine NV.p T ?_
       refine RL.nil _ _ _ _ ?_
       refine hK6 _ _ _ ?_
       refine SW.block ?_
       refine SW.loopM (fun frB mm fr ds HH => ∃ (q : Nat), mm = 9 - q ∧ (q ≤ 8 ∧ ∀ j, j < q → tallyT j ≠ es) ∧ FrIs [2, 3, 4, 5, 6, 15, 16, 17, 18, 19, 20, 21, 22, 23, 24, 25, 26, 27] frB fr [(4, .int .i64 q)] ∧ ds = [] ∧ HH = H) (n := 9 - 0) ?_ ?_
       ·exact ⟨0, rfl, ⟨by omega, fun j h => by omega⟩, (.consI rfl (by omega) (.nil (by repeat first | exact Mx.refl | exact Mx.mix | refine Mx.put rfl ?_ | refine Mx.upd rfl ?_ | refine Mx.updl rfl ?_ | refine Mx.fin rfl ?_ | refine Mx.inner rfl ?_ | refine Mx.none ?_))), rfl, rfl⟩
       ·rintro mm fr ds HH ⟨q, rfl, ⟨hq, hI⟩, hFr, rfl, eHH⟩
        obtain rfl := eHH.symm
        obtain ⟨frU, rfl⟩ := hFr.eq
        clear hFr
        refine SW.seq_k ?_
        intro K7 hK7
        refine SW.seq_k ?_
        intro K8 hK8
        refine SW.region _ _ _ _ ?_
        refine RL.st ?_
        refine NV.p T ?_
        refine RL.st ?_
        refine NV.p T ?_
        refine RL.nil _ _ _ _ ?_
        refine hK8 _ _ _ ?_
        refine SW.cond rfl (fun hc1 => ?_) (fun hc1 => ?_)
        ·try simp only [decide_eq_true_eq, decide_eq_false_iff_not, Bool.not_eq_true', Bool.not_eq_false', Int.not_lt, Int.not_le, Int.toNat_natCast] at hc1
         first
          | (exfalso; clear hK8 K8; clear hK7 K7; clear hK6 K6; clear hK5 K5; clear hK2 K2; clear hK1 K1; clear hK0 K0; first | omega | contradiction)
          | (
           refine SW.skip ?_
           refine hK7 _ _ _ ?_
           refine SW.seq_k ?_
           intro K9 hK9
           refine SW.block ?_
           refine SW.seq_k ?_
           intro K10 hK10
           refine SW.region _ _ _ _ ?_
           refine RL.st ?_
           refine NV.p T ?_
           refine RL.st ?_
           refine NV.call rfl rfl rfl fun20 rfl rfl ((rtally (q : Int) (by omega)).mono (fun v H' h => by rw [show ((q : Int).tmod 8).toNat = q by rw [Int.tmod_eq_emod_of_nonneg (by omega)]; omega] at h; exact h)) ?_
           rintro _ _ ⟨_, rfl, ar, nr, cr, rfl, hnr, hRr, Gr, e⟩; obtain rfl := e.symm
           refine RL.st ?_
           refine NV.p T ?_
           refine RL.st ?_
           refine NV.p T ?_
           refine RL.st ?_
           refine NV.p T ?_
           refine RL.st ?_
           refine NV.p T ?_
           refine RL.st ?_
           refine NV.p T ?_
           refine RL.nil _ _ _ _ ?_
           refine hK10 _ _ _ ?_
           refine SW.seq_k ?_
           intro K11 hK11
           refine SW.region _ _ _ _ ?_
           refine RL.st ?_
           refine NV.p T ?_
           refine RL.st ?_
           refine NV.p T ?_
           refine RL.st ?_
           refine NV.call rfl rfl rfl fun12 rfl rfl (same ar sa nr cr n c (tallyT q) es hRr hR.app hnr hn (by rw [hnr]; unfold tallyT; split <;> simp) hm) ?_
           rintro _ _ ⟨rfl, e⟩; obtain rfl := e.symm
           refine RL.nil _ _ _ _ ?_
           refine hK11 _ _ _ ?_
           refine SW.cond rfl (fun hc2 => ?_) (fun hc2 => ?_)
           ·try simp only [decide_eq_true_eq, decide_eq_false_iff_not, Bool.not_eq_true', Bool.not_eq_false', Int.not_lt, Int.not_le, Int.toNat_natCast] at hc2
            first
             | (exfalso; clear hK11 K11; clear hK10 K10; clear hK9 K9; clear hK8 K8; clear hK7 K7; clear hK6 K6; clear hK5 K5; clear hK2 K2; clear hK1 K1; clear hK0 K0; first | omega | contradiction)
             | (
              refine SW.seq_k ?_
              intro K12 hK12
              refine SW.region _ _ _ _ ?_
              refine RL.st ?_
              refine NV.p T ?_
              refine RL.st ?_
              refine NV.p T ?_
              refine RL.st ?_
              refine NV.p T ?_
              refine RL.nil _ _ _ _ ?_
              refine hK12 _ _ _ ?_
              refine SW.ret ?_
              refine retQ.ret (H' := H) (RVs.tmp (by conv => lhs; whnf) (RVs.tmp (by conv => lhs; whnf) RVs.nil)) (fun w hw => Sat.sub (by repeat first | exact List.Sublist.refl _ | apply List.Sublist.cons_cons | apply List.Sublist.cons | exact List.sublist_append_right _ _ | refine List.Sublist.trans ?_ (List.sublist_append_right _ _)) hw) ?_
              clear hK12 K12 hK11 K11 hK10 K10 hK9 K9 hK8 K8 hK7 K7 hK6 K6 hK5 K5 hK2 K2 hK1 K1 hK0 K0
              refine ⟨?_, rfl⟩
              unfold tellsV
              rw [if_pos ⟨h4, hc⟩]
              first
                | (rw [tellsT_some hI (by omega) (by assumption)]; rfl)
                | (rw [tellsT_none (fun j hj => hI j (by omega))]; rfl)
              )
           ·try simp only [decide_eq_true_eq, decide_eq_false_iff_not, Bool.not_eq_true', Bool.not_eq_false', Int.not_lt, Int.not_le, Int.toNat_natCast] at hc2
            first
             | (exfalso; clear hK11 K11; clear hK10 K10; clear hK9 K9; clear hK8 K8; clear hK7 K7; clear hK6 K6; clear hK5 K5; clear hK2 K2; clear hK1 K1; clear hK0 K0; first | omega | contradiction)
             | (
              refine SW.skip ?_
              refine hK9 _ _ _ ?_
              refine SW.app ?_
              refine SW.region _ _ _ _ ?_
              refine RL.st ?_
              refine NV.p T ?_
              refine RL.st ?_
              first | refine NV.arith rfl rfl rfl rfl (by omega) (by omega) ?_ | refine NV.p T ?_
              refine RL.st ?_
              refine NV.p T ?_
              refine RL.nil _ _ _ _ ?_
              exact ⟨9 - (q + 1), (by omega), q + 1, (by rfl), ⟨by omega, fun j hj => (Nat.lt_succ_iff_lt_or_eq.1 hj).elim (hI j) (fun e => by subst e; assumption)⟩, (.consI rfl (by omega) (.nil (by repeat first | exact Mx.refl | exact Mx.mix | refine Mx.put rfl ?_ | refine Mx.upd rfl ?_ | refine Mx.updl rfl ?_ | refine Mx.fin rfl ?_ | refine Mx.inner rfl ?_ | refine Mx.none ?_))), rfl, rfl⟩
              )
           )
        ·try simp only [decide_eq_true_eq, decide_eq_false_iff_not, Bool.not_eq_true', Bool.not_eq_false', Int.not_lt, Int.not_le, Int.toNat_natCast] at hc1
         first
          | (exfalso; clear hK8 K8; clear hK7 K7; clear hK6 K6; clear hK5 K5; clear hK2 K2; clear hK1 K1; clear hK0 K0; first | omega | contradiction)
          | (
           refine SW.exit ?_
           refine hK5 _ _ _ ?_
           refine SW.seq_k ?_
           intro K13 hK13
           refine SW.region _ _ _ _ ?_
           refine RL.st ?_
           refine NV.p T ?_
           refine RL.st ?_
           refine NV.p T ?_
           refine RL.nil _ _ _ _ ?_
           refine hK13 _ _ _ ?_
           refine SW.ret ?_
           refine retQ.ret (H' := H) (RVs.tmp (by conv => lhs; whnf) (RVs.tmp (by conv => lhs; whnf) RVs.nil)) (fun w hw => Sat.sub (by repeat first | exact List.Sublist.refl _ | apply List.Sublist.cons_cons | apply List.Sublist.cons | exact List.sublist_append_right _ _ | refine List.Sublist.trans ?_ (List.sublist_append_right _ _)) hw) ?_
           clear hK13 K13 hK8 K8 hK7 K7 hK6 K6 hK5 K5 hK2 K2 hK1 K1 hK0 K0
           refine ⟨?_, rfl⟩
           unfold tellsV
           rw [if_pos ⟨h4, hc⟩]
           first
             | (rw [tellsT_some hI (by omega) (by assumption)]; rfl)
             | (rw [tellsT_none (fun j hj => hI j (by omega))]; rfl)
           )
       )
    )
theorem ftells_bad {w0 : World} {H : List Chunk} (sa : Option Addr) (n c : Nat) (es : List Int) (hR : Rd w0 H sa n c 1 (es.map (.int .u8))) (hn : n = es.length) (hm : n ≤ 140737488351232) (hb : Byte es) (h : es.length ≠ 4 ∨ chk es ≠ 0) (x e : Int) (hx : x = 0 ∧ e = 2 ∨ 0 ≤ x ∧ x ≤ 18446744073709551615 ∧ e = 0 ∧ chk es = 0) (hg : SC Try.prog w0 34 #[.slice sa n c] H (fun v H' => v = .tuple #[.int .u64 x, .int .i64 e] ∧ H' = H)) : SC Try.prog w0 21 #[.slice sa n c] H (fun v H' => v = .tuple #[.int .i64 0, .int .i64 2] ∧ H' = H) := by
 refine SC.enter Try.func21 rfl (Nat.le_of_ble_eq_true rfl) ?_
 refine SW.seq_k ?_
 intro K0 hK0
 refine SW.region _ _ _ _ ?_
 refine RL.st ?_
 refine NV.p T ?_
 refine RL.st ?_
 refine NV.p T ?_
 refine RL.nil _ _ _ _ ?_
 refine hK0 _ _ _ ?_
 refine SW.seq_k ?_
 intro K1 hK1
 refine SW.region _ _ _ _ ?_
 refine RL.st ?_
 refine NV.p T ?_
 refine RL.st ?_
 refine NV.call rfl rfl rfl fun34 rfl rfl (hg) ?_
 rintro _ _ ⟨rfl, e⟩; obtain rfl := e.symm
 refine RL.st ?_
 refine NV.p T ?_
 refine RL.st ?_
 refine NV.p T ?_
 refine RL.st ?_
 refine NV.p T ?_
 refine RL.st ?_
 refine NV.p T ?_
 refine RL.st ?_
 refine NV.p T ?_
 refine RL.nil _ _ _ _ ?_
 refine hK1 _ _ _ ?_
 refine SW.seq_k ?_
 intro K2 hK2
 refine SW.seq_k ?_
 intro K3 hK3
 refine SW.region _ _ _ _ ?_
 refine RL.st ?_
 refine NV.p T ?_
 refine RL.st ?_
 refine NV.p T ?_
 refine RL.st ?_
 refine NV.p T ?_
 refine RL.split 15 rfl (fun hs0 => ?_) (fun hs0 => ?_)
 ·try simp only [decide_eq_true_eq, decide_eq_false_iff_not, Bool.not_eq_true', Bool.not_eq_false', Int.not_lt, Int.not_le, Int.toNat_natCast] at hs0
  first
   | (exfalso; clear hK3 K3; clear hK2 K2; clear hK1 K1; clear hK0 K0; first | omega | contradiction)
   | (
    refine RL.guard_no rfl rfl rfl ?_
    refine RL.guard_no rfl rfl rfl ?_
    refine RL.guard_no rfl rfl rfl ?_
    refine RL.st ?_
    refine NV.p T ?_
    refine RL.nil _ _ _ _ ?_
    refine hK3 _ _ _ ?_
    refine SW.cond_t rfl ?_
    refine SW.seq_k ?_
    intro K4 hK4
    refine SW.region _ _ _ _ ?_
    refine RL.st ?_
    refine NV.p T ?_
    refine RL.st ?_
    refine NV.p T ?_
    refine RL.nil _ _ _ _ ?_
    refine hK4 _ _ _ ?_
    refine SW.ret ?_
    refine retQ.ret (H' := H) (RVs.tmp (by conv => lhs; whnf) (RVs.tmp (by conv => lhs; whnf) RVs.nil)) (fun w hw => Sat.sub (by repeat first | exact List.Sublist.refl _ | apply List.Sublist.cons_cons | apply List.Sublist.cons | exact List.sublist_append_right _ _ | refine List.Sublist.trans ?_ (List.sublist_append_right _ _)) hw) ?_
    clear hK4 K4 hK3 K3 hK2 K2 hK1 K1 hK0 K0
    exact ⟨rfl, rfl⟩
    )
 ·try simp only [decide_eq_true_eq, decide_eq_false_iff_not, Bool.not_eq_true', Bool.not_eq_false', Int.not_lt, Int.not_le, Int.toNat_natCast] at hs0
  first
   | (exfalso; clear hK3 K3; clear hK2 K2; clear hK1 K1; clear hK0 K0; first | omega | contradiction)
   | (
    refine RL.st ?_
    refine NV.p T ?_
    refine RL.st ?_
    refine NV.p T ?_
    refine RL.st ?_
    refine NV.p T ?_
    refine RL.st ?_
    refine NV.p T ?_
    refine RL.nil _ _ _ _ ?_
    refine hK3 _ _ _ ?_
    refine SW.cond rfl (fun hc0 => ?_) (fun hc0 => ?_)
    ·try simp only [decide_eq_true_eq, decide_eq_false_iff_not, Bool.not_eq_true', Bool.not_eq_false', Int.not_lt, Int.not_le, Int.toNat_natCast] at hc0
     first
      | (exfalso; clear hK3 K3; clear hK2 K2; clear hK1 K1; clear hK0 K0; first | omega | contradiction)
      | (
       refine SW.seq_k ?_
       intro K5 hK5
       refine SW.region _ _ _ _ ?_
       refine RL.st ?_
       refine NV.p T ?_
       refine RL.st ?_
       refine NV.p T ?_
       refine RL.nil _ _ _ _ ?_
       refine hK5 _ _ _ ?_
       refine SW.ret ?_
       refine retQ.ret (H' := H) (RVs.tmp (by conv => lhs; whnf) (RVs.tmp (by conv => lhs; whnf) RVs.nil)) (fun w hw => Sat.sub (by repeat first | exact List.Sublist.refl _ | apply List.Sublist.cons_cons | apply List.Sublist.cons | exact List.sublist_append_right _ _ | refine List.Sublist.trans ?_ (List.sublist_append_right _ _)) hw) ?_
       clear hK5 K5 hK3 K3 hK2 K2 hK1 K1 hK0 K0
       exact ⟨rfl, rfl⟩
       )
    ·try simp only [decide_eq_true_eq, decide_eq_false_iff_not, Bool.not_eq_true', Bool.not_eq_false', Int.not_lt, Int.not_le, Int.toNat_natCast] at hc0
     first
      | (exfalso; clear hK3 K3; clear hK2 K2; clear hK1 K1; clear hK0 K0; first | omega | contradiction)
      | (
       refine SW.skip ?_
       refine hK2 _ _ _ ?_
       refine SW.seq_k ?_
       intro K6 hK6
       refine SW.region _ _ _ _ ?_
       refine RL.st ?_
       refine NV.p T ?_
       refine RL.st ?_
       refine NV.p T ?_
       refine RL.st ?_
       refine NV.p T ?_
       refine RL.st ?_
       refine NV.p T ?_
       refine RL.nil _ _ _ _ ?_
       refine hK6 _ _ _ ?_
       refine SW.seq_k ?_
       intro K7 hK7
       refine SW.region _ _ _ _ ?_
       refine RL.st ?_
       refine NV.p T ?_
       refine RL.st ?_
       refine NV.p T ?_
       refine RL.st ?_
       refine NV.p T ?_
       refine RL.st ?_
       refine NV.p T ?_
       refine RL.st ?_
       refine NV.p T ?_
       refine RL.st ?_
       refine NV.p T ?_
       refine RL.st ?_
       refine NV.p T ?_
       refine RL.st ?_
       refine NV.p T ?_
       refine RL.nil _ _ _ _ ?_
       refine hK7 _ _ _ ?_
       refine SW.seq_k ?_
       intro K8 hK8
       refine SW.seq_k ?_
       intro K9 hK9
       refine SW.region _ _ _ _ ?_
       refine RL.st ?_
       refine NV.p T ?_
       refine RL.st ?_
       refine NV.p T ?_
       refine RL.st ?_
       refine NV.p T ?_
       refine RL.st ?_
       refine NV.p T ?_
       refine RL.st ?_
       refine NV.p T ?_
       refine RL.st ?_
       refine NV.p T ?_
       refine RL.nil _ _ _ _ ?_
       refine hK9 _ _ _ ?_
       refine SW.cond rfl (fun hc1 => ?_) (fun hc1 => ?_)
       ·try simp only [decide_eq_true_eq, decide_eq_false_iff_not, Bool.not_eq_true', Bool.not_eq_false', Int.not_lt, Int.not_le, Int.toNat_natCast] at hc1
        first
         | (exfalso; clear hK9 K9; clear hK8 K8; clear hK7 K7; clear hK6 K6; clear hK3 K3; clear hK2 K2; clear hK1 K1; clear hK0 K0; first | omega | contradiction)
         | (
          refine SW.seq_k ?_
          intro K10 hK10
          refine SW.region _ _ _ _ ?_
          refine RL.st ?_
          refine NV.p T ?_
          refine RL.st ?_
          refine NV.p T ?_
          refine RL.nil _ _ _ _ ?_
          refine hK10 _ _ _ ?_
          refine SW.ret ?_
          refine retQ.ret (H' := H) (RVs.tmp (by conv => lhs; whnf) (RVs.tmp (by conv => lhs; whnf) RVs.nil)) (fun w hw => Sat.sub (by repeat first | exact List.Sublist.refl _ | apply List.Sublist.cons_cons | apply List.Sublist.cons | exact List.sublist_append_right _ _ | refine List.Sublist.trans ?_ (List.sublist_append_right _ _)) hw) ?_
          clear hK10 K10 hK9 K9 hK8 K8 hK7 K7 hK6 K6 hK3 K3 hK2 K2 hK1 K1 hK0 K0
          exact ⟨rfl, rfl⟩
          )
       ·try simp only [decide_eq_true_eq, decide_eq_false_iff_not, Bool.not_eq_true', Bool.not_eq_false', Int.not_lt, Int.not_le, Int.toNat_natCast] at hc1
        first
         | (exfalso; clear hK9 K9; clear hK8 K8; clear hK7 K7; clear hK6 K6; clear hK3 K3; clear hK2 K2; clear hK1 K1; clear hK0 K0; first | omega | contradiction)
         | (
          refine SW.skip ?_
          refine hK8 _ _ _ ?_
          refine SW.seq_k ?_
          intro K11 hK11
          refine SW.region _ _ _ _ ?_
          refine RL.st ?_
          refine NV.p T ?_
          refine RL.st ?_
          refine NV.p T ?_
          refine RL.st ?_
          refine NV.p T ?_
          refine RL.nil _ _ _ _ ?_
          refine hK11 _ _ _ ?_
          refine SW.ret ?_
          refine retQ.ret (H' := H) (RVs.tmp (by conv => lhs; whnf) (RVs.tmp (by conv => lhs; whnf) RVs.nil)) (fun w hw => Sat.sub (by repeat first | exact List.Sublist.refl _ | apply List.Sublist.cons_cons | apply List.Sublist.cons | exact List.sublist_append_right _ _ | refine List.Sublist.trans ?_ (List.sublist_append_right _ _)) hw) ?_
          clear hK11 K11 hK9 K9 hK8 K8 hK7 K7 hK6 K6 hK3 K3 hK2 K2 hK1 K1 hK0 K0
          exact ⟨rfl, rfl⟩
          )
       )
    )
theorem ftells_ok {w0 : World} {H : List Chunk} (sa : Option Addr) (n c : Nat) (es : List Int) (hR : Rd w0 H sa n c 1 (es.map (.int .u8))) (hn : n = es.length) (hm : n ≤ 140737488351232) (h4 : es.length = 4) (hc : chk es = 0) (hb : Bit es) (z : Int) (hz : numS 0 es = z) (z0 : 0 ≤ z) (z1 : z < 16) : SC Try.prog w0 21 #[.slice sa n c] H (fun v H' => v = .tuple #[.int .i64 (tellsV (bitsS z 4)).1, .int .i64 (tellsV (bitsS z 4)).2] ∧ H' = H) := by
 refine SC.enter Try.func21 rfl (Nat.le_of_ble_eq_true rfl) ?_
 refine SW.seq_k ?_
 intro K0 hK0
 refine SW.region _ _ _ _ ?_
 refine RL.st ?_
 refine NV.p T ?_
 refine RL.st ?_
 refine NV.p T ?_
 refine RL.nil _ _ _ _ ?_
 refine hK0 _ _ _ ?_
 refine SW.seq_k ?_
 intro K1 hK1
 refine SW.region _ _ _ _ ?_
 refine RL.st ?_
 refine NV.p T ?_
 refine RL.st ?_
 refine NV.call rfl rfl rfl fun34 rfl rfl ((get_ok sa n c es hR hn hm (by omega) hc hb).mono (fun v H' h => by rw [hz] at h; exact h)) ?_
 rintro _ _ ⟨rfl, e⟩; obtain rfl := e.symm
 refine RL.st ?_
 refine NV.p T ?_
 refine RL.st ?_
 refine NV.p T ?_
 refine RL.st ?_
 refine NV.p T ?_
 refine RL.st ?_
 refine NV.p T ?_
 refine RL.st ?_
 refine NV.p T ?_
 refine RL.nil _ _ _ _ ?_
 refine hK1 _ _ _ ?_
 refine SW.seq_k ?_
 intro K2 hK2
 refine SW.seq_k ?_
 intro K3 hK3
 refine SW.region _ _ _ _ ?_
 refine RL.st ?_
 refine NV.p T ?_
 refine RL.st ?_
 refine NV.p T ?_
 refine RL.st ?_
 refine NV.p T ?_
 refine RL.split 15 rfl (fun hs0 => ?_) (fun hs0 => ?_)
 ·try simp only [decide_eq_true_eq, decide_eq_false_iff_not, Bool.not_eq_true', Bool.not_eq_false', Int.not_lt, Int.not_le, Int.toNat_natCast] at hs0
  first
   | (exfalso; clear hK3 K3; clear hK2 K2; clear hK1 K1; clear hK0 K0; first | omega | contradiction)
   | (
    refine RL.guard_no rfl rfl rfl ?_
    refine RL.guard_no rfl rfl rfl ?_
    refine RL.guard_no rfl rfl rfl ?_
    refine RL.st ?_
    refine NV.p T ?_
    refine RL.nil _ _ _ _ ?_
    refine hK3 _ _ _ ?_
    refine SW.cond_t rfl ?_
    refine SW.seq_k ?_
    intro K4 hK4
    refine SW.region _ _ _ _ ?_
    refine RL.st ?_
    refine NV.p T ?_
    refine RL.st ?_
    refine NV.p T ?_
    refine RL.nil _ _ _ _ ?_
    refine hK4 _ _ _ ?_
    refine SW.ret ?_
    refine retQ.ret (H' := H) (RVs.tmp (by conv => lhs; whnf) (RVs.tmp (by conv => lhs; whnf) RVs.nil)) (fun w hw => Sat.sub (by repeat first | exact List.Sublist.refl _ | apply List.Sublist.cons_cons | apply List.Sublist.cons | exact List.sublist_append_right _ _ | refine List.Sublist.trans ?_ (List.sublist_append_right _ _)) hw) ?_
    clear hK4 K4 hK3 K3 hK2 K2 hK1 K1 hK0 K0
    refine ⟨?_, rfl⟩
    rcases (by omega : z = 0 ∨ z = 1 ∨ z = 2 ∨ z = 3 ∨ z = 4 ∨ z = 5 ∨ z = 6 ∨ z = 7 ∨ z = 8 ∨ z = 9 ∨ z = 10 ∨ z = 11 ∨ z = 12 ∨ z = 13 ∨ z = 14 ∨ z = 15) with rfl | rfl | rfl | rfl | rfl | rfl | rfl | rfl | rfl | rfl | rfl | rfl | rfl | rfl | rfl | rfl <;> first | rfl | (exfalso; revert hc1; decide)
    )
 ·try simp only [decide_eq_true_eq, decide_eq_false_iff_not, Bool.not_eq_true', Bool.not_eq_false', Int.not_lt, Int.not_le, Int.toNat_natCast] at hs0
  first
   | (exfalso; clear hK3 K3; clear hK2 K2; clear hK1 K1; clear hK0 K0; first | omega | contradiction)
   | (
    refine RL.st ?_
    refine NV.p T ?_
    refine RL.st ?_
    refine NV.p T ?_
    refine RL.st ?_
    refine NV.p T ?_
    refine RL.st ?_
    refine NV.p T ?_
    refine RL.nil _ _ _ _ ?_
    refine hK3 _ _ _ ?_
    refine SW.cond rfl (fun hc0 => ?_) (fun hc0 => ?_)
    ·try simp only [decide_eq_true_eq, decide_eq_false_iff_not, Bool.not_eq_true', Bool.not_eq_false', Int.not_lt, Int.not_le, Int.toNat_natCast] at hc0
     first
      | (exfalso; clear hK3 K3; clear hK2 K2; clear hK1 K1; clear hK0 K0; first | omega | contradiction)
      | (
       refine SW.seq_k ?_
       intro K5 hK5
       refine SW.region _ _ _ _ ?_
       refine RL.st ?_
       refine NV.p T ?_
       refine RL.st ?_
       refine NV.p T ?_
       refine RL.nil _ _ _ _ ?_
       refine hK5 _ _ _ ?_
       refine SW.ret ?_
       refine retQ.ret (H' := H) (RVs.tmp (by conv => lhs; whnf) (RVs.tmp (by conv => lhs; whnf) RVs.nil)) (fun w hw => Sat.sub (by repeat first | exact List.Sublist.refl _ | apply List.Sublist.cons_cons | apply List.Sublist.cons | exact List.sublist_append_right _ _ | refine List.Sublist.trans ?_ (List.sublist_append_right _ _)) hw) ?_
       clear hK5 K5 hK3 K3 hK2 K2 hK1 K1 hK0 K0
       refine ⟨?_, rfl⟩
       rcases (by omega : z = 0 ∨ z = 1 ∨ z = 2 ∨ z = 3 ∨ z = 4 ∨ z = 5 ∨ z = 6 ∨ z = 7 ∨ z = 8 ∨ z = 9 ∨ z = 10 ∨ z = 11 ∨ z = 12 ∨ z = 13 ∨ z = 14 ∨ z = 15) with rfl | rfl | rfl | rfl | rfl | rfl | rfl | rfl | rfl | rfl | rfl | rfl | rfl | rfl | rfl | rfl <;> first | rfl | (exfalso; revert hc1; decide)
       )
    ·try simp only [decide_eq_true_eq, decide_eq_false_iff_not, Bool.not_eq_true', Bool.not_eq_false', Int.not_lt, Int.not_le, Int.toNat_natCast] at hc0
     first
      | (exfalso; clear hK3 K3; clear hK2 K2; clear hK1 K1; clear hK0 K0; first | omega | contradiction)
      | (
       refine SW.skip ?_
       refine hK2 _ _ _ ?_
       refine SW.seq_k ?_
       intro K6 hK6
       refine SW.region _ _ _ _ ?_
       refine RL.st ?_
       refine NV.p T ?_
       refine RL.st ?_
       refine NV.shift rfl rfl rfl (by omega) (.inr ⟨rfl, rfl⟩) ?_
       refine RL.st ?_
       refine NV.p T ?_
       refine RL.st ?_
       refine NV.p T ?_
       refine RL.nil _ _ _ _ ?_
       refine hK6 _ _ _ ?_
       refine SW.seq_k ?_
       intro K7 hK7
       refine SW.region _ _ _ _ ?_
       refine RL.st ?_
       refine NV.p T ?_
       refine RL.st ?_
       refine NV.p T ?_
       refine RL.st ?_
       refine NV.shift rfl rfl rfl (by omega) (.inr ⟨rfl, rfl⟩) ?_
       refine RL.st ?_
       refine NV.p T ?_
       refine RL.st ?_
       refine NV.p T ?_
       refine RL.st ?_
       refine NV.shift rfl rfl rfl (by omega) (.inr ⟨rfl, rfl⟩) ?_
       refine RL.st ?_
       refine NV.p T ?_
       refine RL.st ?_
       refine NV.p T ?_
       refine RL.nil _ _ _ _ ?_
       refine hK7 _ _ _ ?_
       refine SW.seq_k ?_
       intro K8 hK8
       refine SW.seq_k ?_
       intro K9 hK9
       refine SW.region _ _ _ _ ?_
       refine RL.st ?_
       refine NV.p T ?_
       refine RL.st ?_
       refine NV.p T ?_
       refine RL.st ?_
       refine NV.p T ?_
       refine RL.st ?_
       refine NV.p T ?_
       refine RL.st ?_
       refine NV.p T ?_
       refine RL.st ?_
       refine NV.p T ?_
       refine RL.nil _ _ _ _ ?_
       refine hK9 _ _ _ ?_
       refine SW.cond rfl (fun hc1 => ?_) (fun hc1 => ?_)
       ·try simp only [decide_eq_true_eq, decide_eq_false_iff_not, Bool.not_eq_true', Bool.not_eq_false', Int.not_lt, Int.not_le, Int.toNat_natCast] at hc1
        first
         | (exfalso; clear hK9 K9; clear hK8 K8; clear hK7 K7; clear hK6 K6; clear hK3 K3; clear hK2 K2; clear hK1 K1; clear hK0 K0; first | omega | contradiction)
         | (
          refine SW.seq_k ?_
          intro K10 hK10
          refine SW.region _ _ _ _ ?_
          refine RL.st ?_
          refine NV.p T ?_
          refine RL.st ?_
          refine NV.p T ?_
          refine RL.nil _ _ _ _ ?_
          refine hK10 _ _ _ ?_
          refine SW.ret ?_
          refine retQ.ret (H' := H) (RVs.tmp (by conv => lhs; whnf) (RVs.tmp (by conv => lhs; whnf) RVs.nil)) (fun w hw => Sat.sub (by repeat first | exact List.Sublist.refl _ | apply List.Sublist.cons_cons | apply List.Sublist.cons | exact List.sublist_append_right _ _ | refine List.Sublist.trans ?_ (List.sublist_append_right _ _)) hw) ?_
          clear hK10 K10 hK9 K9 hK8 K8 hK7 K7 hK6 K6 hK3 K3 hK2 K2 hK1 K1 hK0 K0
          refine ⟨?_, rfl⟩
          rcases (by omega : z = 0 ∨ z = 1 ∨ z = 2 ∨ z = 3 ∨ z = 4 ∨ z = 5 ∨ z = 6 ∨ z = 7 ∨ z = 8 ∨ z = 9 ∨ z = 10 ∨ z = 11 ∨ z = 12 ∨ z = 13 ∨ z = 14 ∨ z = 15) with rfl | rfl | rfl | rfl | rfl | rfl | rfl | rfl | rfl | rfl | rfl | rfl | rfl | rfl | rfl | rfl <;> first | rfl | (exfalso; revert hc1; decide)
          )
       ·try simp only [decide_eq_true_eq, decide_eq_false_iff_not, Bool.not_eq_true', Bool.not_eq_false', Int.not_lt, Int.not_le, Int.toNat_natCast] at hc1
        first
         | (exfalso; clear hK9 K9; clear hK8 K8; clear hK7 K7; clear hK6 K6; clear hK3 K3; clear hK2 K2; clear hK1 K1; clear hK0 K0; first | omega | contradiction)
         | (
          refine SW.skip ?_
          refine hK8 _ _ _ ?_
          refine SW.seq_k ?_
          intro K11 hK11
          refine SW.region _ _ _ _ ?_
          refine RL.st ?_
          refine NV.p T ?_
          refine RL.st ?_
          refine NV.p T ?_
          refine RL.st ?_
          refine NV.p T ?_
          refine RL.nil _ _ _ _ ?_
          refine hK11 _ _ _ ?_
          refine SW.ret ?_
          refine retQ.ret (H' := H) (RVs.tmp (by conv => lhs; whnf) (RVs.tmp (by conv => lhs; whnf) RVs.nil)) (fun w hw => Sat.sub (by repeat first | exact List.Sublist.refl _ | apply List.Sublist.cons_cons | apply List.Sublist.cons | exact List.sublist_append_right _ _ | refine List.Sublist.trans ?_ (List.sublist_append_right _ _)) hw) ?_
          clear hK11 K11 hK9 K9 hK8 K8 hK7 K7 hK6 K6 hK3 K3 hK2 K2 hK1 K1 hK0 K0
          refine ⟨?_, rfl⟩
          rcases (by omega : z = 0 ∨ z = 1 ∨ z = 2 ∨ z = 3 ∨ z = 4 ∨ z = 5 ∨ z = 6 ∨ z = 7 ∨ z = 8 ∨ z = 9 ∨ z = 10 ∨ z = 11 ∨ z = 12 ∨ z = 13 ∨ z = 14 ∨ z = 15) with rfl | rfl | rfl | rfl | rfl | rfl | rfl | rfl | rfl | rfl | rfl | rfl | rfl | rfl | rfl | rfl <;> first | rfl | (exfalso; revert hc1; decide)
          )
       )
    )
theorem rtells {w0 : World} {H : List Chunk} (sa : Option Addr) (n c : Nat) (es : List Int) (hR : Rd w0 H sa n c 1 (es.map (.int .u8))) (hn : n = es.length) (hm : n ≤ 140737488351232) : SC Try.prog w0 22 #[.slice sa n c] H (fun v H' => v = .tuple #[.int .i64 (tellsV es).1, .int .i64 (tellsV es).2] ∧ H' = H) := by
  by_cases h : es.length = 4 ∧ chk es = 0
  · exact rtells_ok sa n c es hR hn hm h.1 h.2
  · have : tellsV es = (0, 2) := if_neg h
    rw [this]; exact rtells_bad sa n c es hR hn hm (by omega)
theorem ftells {w0 : World} {H : List Chunk} (sa : Option Addr) (n c : Nat) (es : List Int) (hR : Rd w0 H sa n c 1 (es.map (.int .u8))) (hn : n = es.length) (hm : n ≤ 140737488351232) (hb : Byte es) : SC Try.prog w0 21 #[.slice sa n c] H (fun v H' => v = .tuple #[.int .i64 (tellsV es).1, .int .i64 (tellsV es).2] ∧ H' = H) := by
  by_cases h : es.length = 4 ∧ chk es = 0
  · have hbit := bit_of hb (chk_zero.1 h.2).2
    obtain ⟨h1, h2, h3⟩ := tells_of h.1 hbit
    have := ftells_ok sa n c es hR hn hm h.1 h.2 hbit (w0 := w0) _ rfl h2 h3
    rw [← h1] at this; exact this
  · have : tellsV es = (0, 2) := if_neg h
    rw [this]
    by_cases hg : 64 < es.length ∨ chk es ≠ 0
    · exact ftells_bad sa n c es hR hn hm hb (by omega) 0 2 (.inl ⟨rfl, rfl⟩) (get_bad sa n c es hR hn hm hg)
    · have hbit := bit_of hb (chk_zero.1 (show chk es = 0 by omega)).2
      have hlt := numS_lt hbit (show es.length ≤ 64 by omega)
      exact ftells_bad sa n c es hR hn hm hb (by omega) (numS 0 es) 0 (.inr ⟨hlt.1, by omega, rfl, by omega⟩) (get_ok sa n c es hR hn hm (by omega) (by omega) hbit)
end Go.Proofs.Ytdcahmifalabnaa.M
