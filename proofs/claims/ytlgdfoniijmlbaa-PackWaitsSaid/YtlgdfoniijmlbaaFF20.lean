import Derived.Test.YtlgdfoniijmlbaaProg
import Derived.Test.YtlgdfoniijmlbaaFE20
set_option linter.unusedVariables false
set_option linter.unusedSimpArgs false
namespace Go.Proofs.Ytlgdfoniijmlbaa.M
open Go Go.Sep Go.Proofs
set_option maxRecDepth 10000
set_option maxHeartbeats 2000000
theorem rnew_bad {w0 : World} {H : List Chunk} (room wait : Int) (h : room < 8 ∨ 2048 < room ∨ wait < 1 ∨ 1000 < wait) : SC Try.prog w0 12 #[.int .i64 room, .int .i64 wait] H (fun v H' => v = .tuple #[.pointer none, .bool false] ∧ H' = H) := by
 refine SC.enter Try.func12 rfl (Nat.le_of_ble_eq_true rfl) ?_
 refine SW.seq_k fun K0 hK0 => ?_
 refine SW.region _ _ _ _ ?_
 refine RL.p T ?_
 refine RL.p T ?_
 refine RL.nil _ _ _ _ ?_
 refine hK0 _ _ _ ?_
 refine SW.seq_k fun K1 hK1 => ?_
 refine SW.seq_k fun K2 hK2 => ?_
 refine SW.region _ _ _ _ ?_
 refine RL.p T ?_
 refine RL.p T ?_
 refine RL.p T ?_
 refine RL.join (fr1 := ?_) 2 8 false [9, 10] (fun hs0 hj => ?_) ?_ ?_
 rotate_left
 ·have hs0j := hs0
  try simp only [decide_eq_true_eq, Bool.not_eq_true', decide_eq_false_iff_not, Bool.not_eq_false', Int.not_lt, Int.not_le, Int.toNat_natCast, Bool.and_eq_true, Bool.or_eq_true, Bool.and_eq_false_iff, Bool.or_eq_false_iff] at hs0
  refine RL.p T ?_
  refine RL.p T ?_
  exact hj
 ·repeat first | with_reducible exact Mx.refl | with_reducible exact Mx.mix | refine Mx.put rfl ?_ | refine Mx.upd rfl ?_ | refine Mx.updl rfl ?_ | refine Mx.fin rfl ?_ | refine Mx.inner rfl ?_ | refine Mx.none ?_ | exact Mx.refl | exact Mx.mix
 refine RL.or ?_
 refine RL.p T ?_
 refine RL.join (fr1 := ?_) 2 12 false [13, 14] (fun hs1 hj => ?_) ?_ ?_
 rotate_left
 ·have hs1j := hs1
  try simp only [decide_eq_true_eq, Bool.not_eq_true', decide_eq_false_iff_not, Bool.not_eq_false', Int.not_lt, Int.not_le, Int.toNat_natCast, Bool.and_eq_true, Bool.or_eq_true, Bool.and_eq_false_iff, Bool.or_eq_false_iff] at hs1
  refine RL.p T ?_
  refine RL.p T ?_
  exact hj
 ·repeat first | with_reducible exact Mx.refl | with_reducible exact Mx.mix | refine Mx.put rfl ?_ | refine Mx.upd rfl ?_ | refine Mx.updl rfl ?_ | refine Mx.fin rfl ?_ | refine Mx.inner rfl ?_ | refine Mx.none ?_ | exact Mx.refl | exact Mx.mix
 refine RL.or ?_
 refine RL.p T ?_
 refine RL.join (fr1 := ?_) 2 16 false [17, 18] (fun hs2 hj => ?_) ?_ ?_
 rotate_left
 ·have hs2j := hs2
  try simp only [decide_eq_true_eq, Bool.not_eq_true', decide_eq_false_iff_not, Bool.not_eq_false', Int.not_lt, Int.not_le, Int.toNat_natCast, Bool.and_eq_true, Bool.or_eq_true, Bool.and_eq_false_iff, Bool.or_eq_false_iff] at hs2
  refine RL.p T ?_
  refine RL.p T ?_
  exact hj
 ·repeat first | with_reducible exact Mx.refl | with_reducible exact Mx.mix | refine Mx.put rfl ?_ | refine Mx.upd rfl ?_ | refine Mx.updl rfl ?_ | refine Mx.fin rfl ?_ | refine Mx.inner rfl ?_ | refine Mx.none ?_ | exact Mx.refl | exact Mx.mix
 refine RL.or ?_
 refine RL.nil _ _ _ _ ?_
 refine hK2 _ _ _ ?_
 refine SW.cs (fun hc0 => ?_) (fun hc0 => ?_)
 ·skip
  first
   | (exfalso; first | omega | contradiction | (clear hK2 K2; clear hK1 K1; clear hK0 K0; simp at *; done))
   | (
    refine SW.seq_k fun K3 hK3 => ?_
    refine SW.region _ _ _ _ ?_
    refine RL.p T ?_
    refine RL.p T ?_
    refine RL.nil _ _ _ _ ?_
    refine hK3 _ _ _ ?_
    refine SW.ret ?_
    refine retQ.rr (H) ?_
    clear hK3 K3 hK2 K2 hK1 K1 hK0 K0
    exact ⟨rfl, rfl⟩
    )
 ·skip
  first
   | (exfalso; first | omega | contradiction | (clear hK2 K2; clear hK1 K1; clear hK0 K0; simp at *; done))
   | (
    refine SW.skip ?_
    refine hK1 _ _ _ ?_
    refine SW.seq_k fun K4 hK4 => ?_
    refine SW.region _ _ _ _ ?_
    refine RL.p T ?_
    refine RL.p T ?_
    refine RL.s ?_
    first | refine NV.buildc T rfl (rfl : _ = some [_, _, _, _]) ?_ | refine NV.buildz T rfl (rfl : _ = some [_, _, _, _]) ?_ | refine NV.pure T (rfl : _ = some (Value.agg #[_, _, _, _])) ?_
    refine RL.s ?_
    refine NV.box rfl (by exact (rfl : _ = [_, _, _, _])) ?_
    intro b23_0
    refine RL.p T ?_
    refine RL.p T ?_
    refine RL.nil _ _ _ _ ?_
    refine hK4 _ _ _ ?_
    refine SW.ret ?_
    refine retQ.rr (H) ?_
    clear hK4 K4 hK2 K2 hK1 K1 hK0 K0
    exact ⟨rfl, rfl⟩
    )
theorem rnew_ok {w0 : World} {H : List Chunk} (room wait : Nat) (h : 8 ≤ room ∧ room ≤ 2048 ∧ 1 ≤ wait ∧ wait ≤ 1000) : SC Try.prog w0 12 #[.int .i64 ((room : Nat) : Int), .int .i64 ((wait : Nat) : Int)] H (fun v H' => ∃ bm, v = .tuple #[.pointer (some ⟨bm, 0, none⟩), .bool true] ∧ H' = .var bm 55 [.int .i64 ((room : Nat) : Int), .int .i64 ((wait : Nat) : Int), .int .i64 ((0 : Nat) : Int), .slice none 0 0] :: H) := by
 refine SC.enter Try.func12 rfl (Nat.le_of_ble_eq_true rfl) ?_
 refine SW.seq_k fun K0 hK0 => ?_
 refine SW.region _ _ _ _ ?_
 refine RL.p T ?_
 refine RL.p T ?_
 refine RL.nil _ _ _ _ ?_
 refine hK0 _ _ _ ?_
 refine SW.seq_k fun K1 hK1 => ?_
 refine SW.seq_k fun K2 hK2 => ?_
 refine SW.region _ _ _ _ ?_
 refine RL.p T ?_
 refine RL.p T ?_
 refine RL.p T ?_
 refine RL.join (fr1 := ?_) 2 8 false [9, 10] (fun hs0 hj => ?_) ?_ ?_
 rotate_left
 ·have hs0j := hs0
  try simp only [decide_eq_true_eq, Bool.not_eq_true', decide_eq_false_iff_not, Bool.not_eq_false', Int.not_lt, Int.not_le, Int.toNat_natCast, Bool.and_eq_true, Bool.or_eq_true, Bool.and_eq_false_iff, Bool.or_eq_false_iff] at hs0
  refine RL.p T ?_
  refine RL.p T ?_
  exact hj
 ·repeat first | with_reducible exact Mx.refl | with_reducible exact Mx.mix | refine Mx.put rfl ?_ | refine Mx.upd rfl ?_ | refine Mx.updl rfl ?_ | refine Mx.fin rfl ?_ | refine Mx.inner rfl ?_ | refine Mx.none ?_ | exact Mx.refl | exact Mx.mix
 refine RL.or ?_
 refine RL.p T ?_
 refine RL.join (fr1 := ?_) 2 12 false [13, 14] (fun hs1 hj => ?_) ?_ ?_
 rotate_left
 ·have hs1j := hs1
  try simp only [decide_eq_true_eq, Bool.not_eq_true', decide_eq_false_iff_not, Bool.not_eq_false', Int.not_lt, Int.not_le, Int.toNat_natCast, Bool.and_eq_true, Bool.or_eq_true, Bool.and_eq_false_iff, Bool.or_eq_false_iff] at hs1
  refine RL.p T ?_
  refine RL.p T ?_
  exact hj
 ·repeat first | with_reducible exact Mx.refl | with_reducible exact Mx.mix | refine Mx.put rfl ?_ | refine Mx.upd rfl ?_ | refine Mx.updl rfl ?_ | refine Mx.fin rfl ?_ | refine Mx.inner rfl ?_ | refine Mx.none ?_ | exact Mx.refl | exact Mx.mix
 refine RL.or ?_
 refine RL.p T ?_
 refine RL.join (fr1 := ?_) 2 16 false [17, 18] (fun hs2 hj => ?_) ?_ ?_
 rotate_left
 ·have hs2j := hs2
  try simp only [decide_eq_true_eq, Bool.not_eq_true', decide_eq_false_iff_not, Bool.not_eq_false', Int.not_lt, Int.not_le, Int.toNat_natCast, Bool.and_eq_true, Bool.or_eq_true, Bool.and_eq_false_iff, Bool.or_eq_false_iff] at hs2
  refine RL.p T ?_
  refine RL.p T ?_
  exact hj
 ·repeat first | with_reducible exact Mx.refl | with_reducible exact Mx.mix | refine Mx.put rfl ?_ | refine Mx.upd rfl ?_ | refine Mx.updl rfl ?_ | refine Mx.fin rfl ?_ | refine Mx.inner rfl ?_ | refine Mx.none ?_ | exact Mx.refl | exact Mx.mix
 refine RL.or ?_
 refine RL.nil _ _ _ _ ?_
 refine hK2 _ _ _ ?_
 refine SW.cs (fun hc0 => ?_) (fun hc0 => ?_)
 ·skip
  first
   | (exfalso; first | omega | contradiction | (clear hK2 K2; clear hK1 K1; clear hK0 K0; simp at *; done))
   | (
    refine SW.seq_k fun K3 hK3 => ?_
    refine SW.region _ _ _ _ ?_
    refine RL.p T ?_
    refine RL.p T ?_
    refine RL.nil _ _ _ _ ?_
    refine hK3 _ _ _ ?_
    refine SW.ret ?_
    refine retQ.rr _ ?_ (hH := fun w hw => hw)
    clear hK3 K3 hK2 K2 hK1 K1 hK0 K0
    exact ⟨_, rfl, rfl⟩
    )
 ·skip
  first
   | (exfalso; first | omega | contradiction | (clear hK2 K2; clear hK1 K1; clear hK0 K0; simp at *; done))
   | (
    refine SW.skip ?_
    refine hK1 _ _ _ ?_
    refine SW.seq_k fun K4 hK4 => ?_
    refine SW.region _ _ _ _ ?_
    refine RL.p T ?_
    refine RL.p T ?_
    refine RL.s ?_
    first | refine NV.buildc T rfl (rfl : _ = some [_, _, _, _]) ?_ | refine NV.buildz T rfl (rfl : _ = some [_, _, _, _]) ?_ | refine NV.pure T (rfl : _ = some (Value.agg #[_, _, _, _])) ?_
    refine RL.s ?_
    refine NV.box rfl (by exact (rfl : _ = [_, _, _, _])) ?_
    intro b23_0
    refine RL.p T ?_
    refine RL.p T ?_
    refine RL.nil _ _ _ _ ?_
    refine hK4 _ _ _ ?_
    refine SW.ret ?_
    refine retQ.rr _ ?_ (hH := fun w hw => hw)
    clear hK4 K4 hK2 K2 hK1 K1 hK0 K0
    exact ⟨_, rfl, rfl⟩
    )
theorem rsizeB {w0 : World} {H : List Chunk} (p : Pd) (hp : PdOk w0 H p) (h : 2048 < wk (mgP p)) : SC Try.prog w0 25 #[PdA p] H (fun v H' => v = .tuple #[.int .i64 0, .int .i64 2] ∧ H' = H) := by
  have := rsize p hp; rw [sizeP_gt h] at this; exact this
theorem rsizeO {w0 : World} {H : List Chunk} (p : Pd) (hp : PdOk w0 H p) (h : wk (mgP p) ≤ 2048) : SC Try.prog w0 25 #[PdA p] H (fun v H' => v = .tuple #[.int .i64 ((wk (mgP p) : Nat) : Int), .int .i64 0] ∧ H' = H) := by
  have := rsize p hp; rw [sizeP_mg h] at this; exact this
theorem rjoinT {w0 : World} {H : List Chunk} (ps : List Pd) (sr : Option Addr) (nr cr : Nat) (hB : Rd w0 H sr nr cr 2 (ps.flatMap PdC)) (hnr : nr = ps.length) (h0 : 0 < ps.length) (hu : usedM (mg ps) ≤ 2048) (hps : ∀ k, PdOk w0 H (ps.getD k default)) : SC Try.prog w0 24 #[.slice sr nr cr] H (fun v H' => ∃ a c, v = .tuple #[.slice a (usedM (mg ps)) c, .int .i64 0] ∧ H' = .row a (usedM (mg ps)) c 5 1 (List.map (Value.int .u8) (joinB (mg ps))) :: H) := by
  have h1 := usedM_len (mg ps)
  have h2 := mg_len ps
  have h := rjoin (w0 := w0) (H := H) ps sr nr cr hB hnr (by omega) hps
  rw [joinV_mg h0 hu] at h
  simp only [joinB_len] at h
  exact h
theorem rused {w0 : World} {H : List Chunk} (bm room wait age : Nat) (ma : Option Addr) (mn mc : Nat) {kk : Chunk → List Chunk} (hat : At H (.var bm 55 [.int .i64 ((room : Nat) : Int), .int .i64 ((wait : Nat) : Int), .int .i64 ((age : Nat) : Int), .slice ma mn mc]) kk) (M : List Pd) (hR : Rd w0 H ma mn mc 2 (M.flatMap PdC)) (hn : mn = M.length) (hu2 : usedM (mg M) ≤ 2048) (hok : ∀ y ∈ M, PdOk w0 H y) : SC Try.prog w0 26 #[.pointer (some ⟨bm, 0, none⟩)] H (fun v H' => v = .int .i64 ((usedM (mg M) : Nat) : Int) ∧ H' = H) := by
 refine SC.enter Try.func26 rfl (Nat.le_of_ble_eq_true rfl) ?_
 refine SW.seq_k fun K0 hK0 => ?_
 have hll := usedM_len (mg M)
 rw [mg_len] at hll
 refine SW.region _ _ _ _ ?_
 refine RL.p T ?_
 refine RL.nil _ _ _ _ ?_
 refine hK0 _ _ _ ?_
 refine SW.seq_k fun K1 hK1 => ?_
 refine SW.region _ _ _ _ ?_
 refine RL.p T ?_
 refine RL.nil _ _ _ _ ?_
 refine hK1 _ _ _ ?_
 refine SW.seq_k fun K2 hK2 => ?_
 refine SW.seq_k fun K3 hK3 => ?_
 refine SW.region _ _ _ _ ?_
 refine RL.p T ?_
 refine RL.p T ?_
 refine RL.p T ?_
 first | refine RL.lv1 T ?_ | refine RL.le T ?_ (hR := fun hs => (by repeat first | exact hR | apply Rd.cons))
 refine RL.p T ?_
 refine RL.p T ?_
 refine RL.nil _ _ _ _ ?_
 refine hK3 _ _ _ ?_
 refine SW.block ?_
 refine SW.loopM (fun frB mm fr ds HH => ∃ (k : Nat), mm = mn - k ∧ (k ≤ mn) ∧ FrIs [3, 5, 6, 7, 13, 14, 15, 16, 17, 18, 19, 20, 21, 22, 23, 24, 25] frB fr [(3, .int .i64 ((usedM (mg (M.take k)) : Nat) : Int)), (13, .int .i64 k)] ∧ ds = [] ∧ HH = H) (n := mn - 0) ?_ ?_
 ·exact ⟨0, rfl, Nat.zero_le _, (.consI rfl (by first | omega | rfl) (.consI rfl (by first | omega | rfl) (.nil (by repeat first | with_reducible exact Mx.refl | with_reducible exact Mx.mix | refine Mx.put rfl ?_ | refine Mx.upd rfl ?_ | refine Mx.updl rfl ?_ | refine Mx.fin rfl ?_ | refine Mx.inner rfl ?_ | refine Mx.none ?_ | exact Mx.refl | exact Mx.mix)))), rfl, rfl⟩
 ·rintro mm fr ds HH ⟨k, rfl, hk, hFr, rfl, eHH⟩
  obtain rfl := eHH.symm
  obtain ⟨frU, rfl⟩ := hFr.eq
  clear hFr
  have hx := pd_mem hok k
  have hst : k < M.length → _ := fun h => usedM_take h
  have hwk : k < M.length → _ := fun h => wk_getD h
  have hlt := usedM_take_le M k
  refine SW.seq_k fun K4 hK4 => ?_
  refine SW.region _ _ _ _ ?_
  refine RL.p T ?_
  refine RL.nil _ _ _ _ ?_
  refine hK4 _ _ _ ?_
  refine SW.seq_k fun K5 hK5 => ?_
  refine SW.cs (fun hc0 => ?_) (fun hc0 => ?_)
  ·skip
   first
    | (exfalso; first | omega | contradiction | (clear hK5 K5; clear hK4 K4; clear hK3 K3; clear hK2 K2; clear hK1 K1; clear hK0 K0; simp at *; done))
    | (
     refine SW.skip ?_
     refine hK5 _ _ _ ?_
     refine SW.seq_k fun K6 hK6 => ?_
     refine SW.block ?_
     refine SW.seq_k fun K7 hK7 => ?_
     refine SW.region _ _ _ _ ?_
     refine RL.ix T ?_ (hR := fun hs => (by repeat first | exact hR | apply Rd.cons))
     refine RL.leN T ?_ (hR := fun hs => (by repeat first | exact hR | apply Rd.cons)) (hvs := (by exact (rfl : _ = [_, _])))
     refine RL.s ?_
     refine NV.alloc T rfl rfl rfl (by exact (rfl : _ = [_, _])) ?_
     intro b5_0
     refine RL.s ?_
     refine NV.sN T rfl rfl rfl (by exact (rfl : _ = [_, _])) (by exact (rfl : _ = [_, _])) ?_
     refine RL.nil _ _ _ _ ?_
     refine hK7 _ _ _ ?_
     refine SW.seq_k fun K8 hK8 => ?_
     refine SW.region _ _ _ _ ?_
     refine RL.q (QV.vN T rfl rfl rfl rfl rfl (by exact (rfl : _ = [_, _]))) ?_
     refine RL.c fun25 (fun hs => rsizeO (M.getD k default) (by repeat first | exact hx | apply PdOk.cons) (by omega)) ?_
     rintro _ _ ⟨rfl, e⟩; obtain rfl := e.symm
     refine RL.p T ?_
     refine RL.p T ?_
     refine RL.p T ?_
     refine RL.p T ?_
     refine RL.p T ?_
     refine RL.nil _ _ _ _ ?_
     refine hK8 _ _ _ ?_
     refine SW.region _ _ _ _ ?_
     refine RL.p T ?_
     refine RL.p T ?_
     first | refine RL.ar ?_ | refine RL.p T ?_
     refine RL.p T ?_
     refine RL.nil _ _ _ _ ?_
     refine hK6 _ _ _ ?_
     refine SW.drop ?_
     refine SW.region _ _ _ _ ?_
     first | refine RL.ar ?_ | refine RL.p T ?_
     refine RL.p T ?_
     refine RL.nil _ _ _ _ ?_
     exact ⟨mn - (k + 1), (by omega), k + 1, (by rfl), by omega, (.consI rfl (by first | omega | rfl) (.consI rfl (by first | omega | rfl) (.nil (by repeat first | with_reducible exact Mx.refl | with_reducible exact Mx.mix | refine Mx.put rfl ?_ | refine Mx.upd rfl ?_ | refine Mx.updl rfl ?_ | refine Mx.fin rfl ?_ | refine Mx.inner rfl ?_ | refine Mx.none ?_ | exact Mx.refl | exact Mx.mix)))), rfl, rfl⟩
     )
  ·skip
   first
    | (exfalso; first | omega | contradiction | (clear hK5 K5; clear hK4 K4; clear hK3 K3; clear hK2 K2; clear hK1 K1; clear hK0 K0; simp at *; done))
    | (
     refine SW.exit ?_
     refine hK2 _ _ _ ?_
     refine SW.seq_k fun K9 hK9 => ?_
     refine SW.region _ _ _ _ ?_
     refine RL.p T ?_
     refine RL.p T ?_
     refine RL.nil _ _ _ _ ?_
     refine hK9 _ _ _ ?_
     refine SW.ret ?_
     refine retQ.rr (H) ?_
     clear hK9 K9 hK5 K5 hK4 K4 hK3 K3 hK2 K2 hK1 K1 hK0 K0
     obtain rfl : k = mn := by omega
     rw [List.take_of_length_le (by omega)]
     exact ⟨rfl, rfl⟩
     )
theorem rflush_ok {w0 : World} {H : List Chunk} (bm room wait age : Nat) (ma : Option Addr) (mn mc : Nat) (M : List Pd) (hR : Rd w0 H ma mn mc 2 (M.flatMap PdC)) (hn : mn = M.length) (hu2 : usedM (mg M) ≤ 2048) (hok : ∀ y ∈ M, PdOk w0 H y) (h0 : 0 < M.length) : SC Try.prog w0 16 #[.pointer (some ⟨bm, 0, none⟩)] (.var bm 55 [.int .i64 ((room : Nat) : Int), .int .i64 ((wait : Nat) : Int), .int .i64 ((age : Nat) : Int), .slice ma mn mc] :: H) (fun v H' => ∃ a1 c1 bs, v = .slice (some ⟨bs, 0, none⟩) 1 1 ∧ H' = .row (some ⟨bs, 0, none⟩) 1 1 23 1 (List.flatMap SlC [(⟨a1, usedM (mg M), c1, joinB (mg M)⟩ : Sl)]) :: .var bm 55 [.int .i64 ((room : Nat) : Int), .int .i64 ((wait : Nat) : Int), .int .i64 ((0 : Nat) : Int), .slice none 0 0] :: (.row a1 (usedM (mg M)) c1 5 1 (List.map (Value.int .u8) (joinB (mg M))) :: H)) := by
 refine SC.enter Try.func16 rfl (Nat.le_of_ble_eq_true rfl) ?_
 refine SW.seq_k fun K0 hK0 => ?_
 refine SW.region _ _ _ _ ?_
 refine RL.p T ?_
 refine RL.nil _ _ _ _ ?_
 refine hK0 _ _ _ ?_
 refine SW.seq_k fun K1 hK1 => ?_
 refine SW.seq_k fun K2 hK2 => ?_
 refine SW.region _ _ _ _ ?_
 refine RL.p T ?_
 refine RL.p T ?_
 refine RL.p T ?_
 first | refine RL.lv1 T ?_ | refine RL.le T ?_
 refine RL.p T ?_
 refine RL.p T ?_
 refine RL.nil _ _ _ _ ?_
 refine hK2 _ _ _ ?_
 refine SW.cs (fun hc0 => ?_) (fun hc0 => ?_)
 ·skip
  first
   | (exfalso; first | omega | contradiction | (clear hK2 K2; clear hK1 K1; clear hK0 K0; simp at *; done))
   | (
    refine SW.seq_k fun K3 hK3 => ?_
    refine SW.region _ _ _ _ ?_
    refine RL.p T ?_
    refine RL.nil _ _ _ _ ?_
    refine hK3 _ _ _ ?_
    refine SW.ret ?_
    refine retQ.wk (.row (some ⟨b26_0, 0, none⟩) 1 1 23 1 (List.flatMap SlC [(⟨a1, usedM (mg M), c1, joinB (mg M)⟩ : Sl)]) :: .var bm 55 [.int .i64 ((room : Nat) : Int), .int .i64 ((wait : Nat) : Int), .int .i64 ((0 : Nat) : Int), .slice none 0 0] :: (.row a1 (usedM (mg M)) c1 5 1 (List.map (Value.int .u8) (joinB (mg M))) :: H)) ?_
    refine retQ.rr _ ?_ (hH := fun w hw => hw)
    clear hK3 K3 hK2 K2 hK1 K1 hK0 K0
    exact ⟨a1, c1, b26_0, rfl, rfl⟩
    )
 ·skip
  first
   | (exfalso; first | omega | contradiction | (clear hK2 K2; clear hK1 K1; clear hK0 K0; simp at *; done))
   | (
    refine SW.skip ?_
    refine hK1 _ _ _ ?_
    refine SW.seq_k fun K4 hK4 => ?_
    refine SW.region _ _ _ _ ?_
    refine RL.p T ?_
    refine RL.p T ?_
    refine RL.p T ?_
    first | refine RL.lv1 T ?_ | refine RL.le T ?_
    refine RL.c fun24 (fun hs => rjoinT M ma mn mc hR.cons hn h0 hu2 (fun k => (pd_mem hok k).cons)) ?_
    rintro _ _ ⟨a1, c1, rfl, e⟩; obtain rfl := e.symm
    refine RL.p T ?_
    refine RL.p T ?_
    refine RL.p T ?_
    refine RL.p T ?_
    refine RL.p T ?_
    refine RL.nil _ _ _ _ ?_
    refine hK4 _ _ _ ?_
    refine SW.seq_k fun K5 hK5 => ?_
    refine SW.region _ _ _ _ ?_
    refine RL.p T ?_
    refine RL.p T ?_
    refine RL.p T ?_
    refine RL.p T ?_
    refine RL.s ?_
    first
      | refine NV.store_var1 T rfl rfl rfl rfl (by conv => lhs; whnf) rfl (by repeat first | exact At.head _ _ | assumption | exact At.put (by assumption) _ | apply At.tail | apply At.app) rfl rfl ?_
      | refine NV.store_var T rfl rfl rfl (by exact (rfl : _ = [_])) rfl rfl (by repeat first | exact At.head _ _ | assumption | exact At.put (by assumption) _ | apply At.tail | apply At.app) (Nat.le_of_ble_eq_true rfl) rfl ?_
      | refine NV.store_elem T rfl rfl rfl rfl (by conv => lhs; whnf) rfl (by repeat first | exact At.head _ _ | assumption | exact At.put (by assumption) _ | apply At.tail | apply At.app) (by omega) ?_
    refine RL.p T ?_
    refine RL.p T ?_
    refine RL.s ?_
    first
      | refine NV.store_var1 T rfl rfl rfl rfl (by conv => lhs; whnf) rfl (by repeat first | exact At.head _ _ | assumption | exact At.put (by assumption) _ | apply At.tail | apply At.app) rfl rfl ?_
      | refine NV.store_var T rfl rfl rfl (by exact (rfl : _ = [_])) rfl rfl (by repeat first | exact At.head _ _ | assumption | exact At.put (by assumption) _ | apply At.tail | apply At.app) (Nat.le_of_ble_eq_true rfl) rfl ?_
      | refine NV.store_elem T rfl rfl rfl rfl (by conv => lhs; whnf) rfl (by repeat first | exact At.head _ _ | assumption | exact At.put (by assumption) _ | apply At.tail | apply At.app) (by omega) ?_
    refine RL.nil _ _ _ _ ?_
    refine hK5 _ _ _ ?_
    refine SW.seq_k fun K6 hK6 => ?_
    refine SW.region _ _ _ _ ?_
    refine RL.p T ?_
    refine RL.bs T rfl rfl rfl (by exact (rfl : _ = some [_])) (fun b26_0 => ?_)
    refine RL.p T ?_
    refine RL.nil _ _ _ _ ?_
    refine hK6 _ _ _ ?_
    refine SW.ret ?_
    refine retQ.wk (.row (some ⟨b26_0, 0, none⟩) 1 1 23 1 (List.flatMap SlC [(⟨a1, usedM (mg M), c1, joinB (mg M)⟩ : Sl)]) :: .var bm 55 [.int .i64 ((room : Nat) : Int), .int .i64 ((wait : Nat) : Int), .int .i64 ((0 : Nat) : Int), .slice none 0 0] :: (.row a1 (usedM (mg M)) c1 5 1 (List.map (Value.int .u8) (joinB (mg M))) :: H)) ?_
    refine retQ.rr _ ?_ (hH := fun w hw => hw)
    clear hK6 K6 hK5 K5 hK4 K4 hK2 K2 hK1 K1 hK0 K0
    exact ⟨a1, c1, b26_0, rfl, rfl⟩
    )
theorem rflush_nil {w0 : World} {H : List Chunk} (bm room wait age : Nat) (ma : Option Addr) (mn mc : Nat) (h0 : mn = 0) : SC Try.prog w0 16 #[.pointer (some ⟨bm, 0, none⟩)] (.var bm 55 [.int .i64 ((room : Nat) : Int), .int .i64 ((wait : Nat) : Int), .int .i64 ((age : Nat) : Int), .slice ma mn mc] :: H) (fun v H' => v = .slice none 0 0 ∧ H' = .var bm 55 [.int .i64 ((room : Nat) : Int), .int .i64 ((wait : Nat) : Int), .int .i64 ((age : Nat) : Int), .slice ma mn mc] :: H) := by
 refine SC.enter Try.func16 rfl (Nat.le_of_ble_eq_true rfl) ?_
 refine SW.seq_k fun K0 hK0 => ?_
 refine SW.region _ _ _ _ ?_
 refine RL.p T ?_
 refine RL.nil _ _ _ _ ?_
 refine hK0 _ _ _ ?_
 refine SW.seq_k fun K1 hK1 => ?_
 refine SW.seq_k fun K2 hK2 => ?_
 refine SW.region _ _ _ _ ?_
 refine RL.p T ?_
 refine RL.p T ?_
 refine RL.p T ?_
 first | refine RL.lv1 T ?_ | refine RL.le T ?_
 refine RL.p T ?_
 refine RL.p T ?_
 refine RL.nil _ _ _ _ ?_
 refine hK2 _ _ _ ?_
 refine SW.cs (fun hc0 => ?_) (fun hc0 => ?_)
 ·skip
  first
   | (exfalso; first | omega | contradiction | (clear hK2 K2; clear hK1 K1; clear hK0 K0; simp at *; done))
   | (
    refine SW.seq_k fun K3 hK3 => ?_
    refine SW.region _ _ _ _ ?_
    refine RL.p T ?_
    refine RL.nil _ _ _ _ ?_
    refine hK3 _ _ _ ?_
    refine SW.ret ?_
    refine retQ.rr ((.var bm 55 [.int .i64 ((room : Nat) : Int), .int .i64 ((wait : Nat) : Int), .int .i64 ((age : Nat) : Int), .slice ma mn mc] :: H)) ?_
    clear hK3 K3 hK2 K2 hK1 K1 hK0 K0
    exact ⟨rfl, rfl⟩
    )
 ·skip
  exfalso; first | omega | contradiction | (clear hK2 K2; clear hK1 K1; clear hK0 K0; simp at *; done)
theorem rflushV {w0 : World} {H : List Chunk} (bm room wait age : Nat) (ma : Option Addr) (mn mc : Nat) (M : List Pd) (hR : Rd w0 H ma mn mc 2 (M.flatMap PdC)) (hn : mn = M.length) (hu2 : usedM (mg M) ≤ 2048) (hok : ∀ y ∈ M, PdOk w0 H y) : SC Try.prog w0 16 #[.pointer (some ⟨bm, 0, none⟩)] (.var bm 55 [.int .i64 ((room : Nat) : Int), .int .i64 ((wait : Nat) : Int), .int .i64 ((age : Nat) : Int), .slice ma mn mc] :: H) (fun v H' => ∃ D oa' on' oc' os' ma' mn' mc' M' age', v = .slice oa' on' oc' ∧ H' = .row oa' on' oc' 23 1 (List.flatMap SlC os') :: .var bm 55 [.int .i64 ((room : Nat) : Int), .int .i64 ((wait : Nat) : Int), .int .i64 ((age' : Nat) : Int), .slice ma' mn' mc'] :: (D ++ H) ∧ on' = os'.length ∧ mn' = M'.length ∧ outD os' = flushO (mg M) ∧ mg M' = [] ∧ age' = (if M = [] then age else 0) ∧ (∀ q ∈ os', SlOk w0 D q) ∧ (∀ y ∈ M', y ∈ M ∨ PdOk w0 D y) ∧ (∀ G, Rd w0 G ma mn mc 2 (List.flatMap PdC M) → Rd w0 (D ++ G) ma' mn' mc' 2 (List.flatMap PdC M'))) := by
  by_cases h0 : M = []
  · subst h0
    obtain rfl : mn = 0 := hn
    refine SC.nilrow 23 1 (SC.out (SC.wk (rflush_nil bm room wait age ma 0 mc rfl (H := .row none 0 0 23 1 [] :: H))) ?_)
    rintro _ _ ⟨rfl, rfl⟩
    exact ⟨.row none 0 0 23 1 (List.flatMap SlC []) :: .var bm 55 [.int .i64 ((room : Nat) : Int), .int .i64 ((wait : Nat) : Int), .int .i64 ((age : Nat) : Int), .slice ma 0 mc] :: ([] ++ H), SubL.by, [], none, 0, 0, [], ma, 0, mc, [], age, rfl, rfl, rfl, rfl, by simp [flushO, mg, outD], rfl, by simp, by simp, fun y hy => .inl hy, fun G h => h⟩
  · have hl : 0 < M.length := List.length_pos_iff.2 h0
    refine SC.outS (rflush_ok bm room wait age ma mn mc M hR hn hu2 hok hl) ?_
    rintro _ _ hs ⟨a, c, bs, rfl, rfl⟩
    have hr := Rd.rowh (w0 := w0) (satT (H0 := [.row a (usedM (mg M)) c 5 1 (List.map (Value.int .u8) (joinB (mg M)))]) hs) (At.head _ _)
    refine ⟨_, SubL.refl _, [.row a (usedM (mg M)) c 5 1 (List.map (Value.int .u8) (joinB (mg M)))], _, 1, 1, _, none, 0, 0, [], 0, rfl, rfl, rfl, rfl, ?_, rfl, by rw [if_neg h0], ?_, (fun y hy => by cases hy), fun G _ => Rd.nilPd⟩
    · rw [flushO, if_neg (by rw [mg_nil]; exact h0)]
      simp [outD]
    · intro q hq
      rw [List.mem_singleton.1 hq]
      exact ⟨(joinB_len _).symm, by show usedM (mg M) ≤ _; omega, joinB_byte hok hu2, hr⟩
end Go.Proofs.Ytlgdfoniijmlbaa.M
