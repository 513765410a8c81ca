import Derived.Test.YtlgdfoniijmlbaaDoorProg
import Derived.Test.YtlgdfoniijmlbaaDoorFA20D
import Derived.Test.YtlgdfoniijmlbaaDoorP20
import Derived.Test.YtlgdfoniijmlbaaDoorS25
set_option linter.unusedVariables false
set_option linter.unusedSimpArgs false
namespace Go.Proofs.YtlgdfoniijmlbaaDoor.M
open Go Go.Sep Go.Proofs
set_option maxRecDepth 10000
set_option maxHeartbeats 2000000
theorem new_bad {w0 : World} {H : List Chunk} (room wait : Int) (h : room < 8 ∨ 2048 < room ∨ wait < 1 ∨ 1000 < wait) : SC Tryd.prog w0 8 #[.int .i64 room, .int .i64 wait] H (fun v H' => v = .tuple #[.pointer none, .int .i64 2] ∧ H' = H) := by
 refine SC.enter Tryd.func8 rfl (Nat.le_of_ble_eq_true rfl) ?_
 refine SW.seq_k fun K0 hK0 => ?_
 refine SW.region _ _ _ _ ?_
 refine RL.p T ?_
 refine RL.p T ?_
 refine RL.nil _ _ _ _ ?_
 refine hK0 _ _ _ ?_
 refine SW.seq_k fun K1 hK1 => ?_
 refine SW.seq_k fun K2 hK2 => ?_
 refine SW.region _ _ _ _ ?_
 refine RL.p T ?_
 refine RL.p T ?_
 refine RL.p T ?_
 refine RL.join (fr1 := ?_) 2 8 false [9, 10] (fun hs0 hj => ?_) ?_ ?_
 rotate_left
 ·have hs0j := hs0
  try simp only [decide_eq_true_eq, Bool.not_eq_true', decide_eq_false_iff_not, Bool.not_eq_false', Int.not_lt, Int.not_le, Int.toNat_natCast, Bool.and_eq_true, Bool.or_eq_true, Bool.and_eq_false_iff, Bool.or_eq_false_iff] at hs0
  refine RL.p T ?_
  refine RL.p T ?_
  exact hj
 ·repeat first | with_reducible exact Mx.refl | with_reducible exact Mx.mix | refine Mx.put rfl ?_ | refine Mx.upd rfl ?_ | refine Mx.updl rfl ?_ | refine Mx.fin rfl ?_ | refine Mx.inner rfl ?_ | refine Mx.none ?_ | exact Mx.refl | exact Mx.mix
 refine RL.or ?_
 refine RL.p T ?_
 refine RL.join (fr1 := ?_) 2 12 false [13, 14] (fun hs1 hj => ?_) ?_ ?_
 rotate_left
 ·have hs1j := hs1
  try simp only [decide_eq_true_eq, Bool.not_eq_true', decide_eq_false_iff_not, Bool.not_eq_false', Int.not_lt, Int.not_le, Int.toNat_natCast, Bool.and_eq_true, Bool.or_eq_true, Bool.and_eq_false_iff, Bool.or_eq_false_iff] at hs1
  refine RL.p T ?_
  refine RL.p T ?_
  exact hj
 ·repeat first | with_reducible exact Mx.refl | with_reducible exact Mx.mix | refine Mx.put rfl ?_ | refine Mx.upd rfl ?_ | refine Mx.updl rfl ?_ | refine Mx.fin rfl ?_ | refine Mx.inner rfl ?_ | refine Mx.none ?_ | exact Mx.refl | exact Mx.mix
 refine RL.or ?_
 refine RL.p T ?_
 refine RL.join (fr1 := ?_) 2 16 false [17, 18] (fun hs2 hj => ?_) ?_ ?_
 rotate_left
 ·have hs2j := hs2
  try simp only [decide_eq_true_eq, Bool.not_eq_true', decide_eq_false_iff_not, Bool.not_eq_false', Int.not_lt, Int.not_le, Int.toNat_natCast, Bool.and_eq_true, Bool.or_eq_true, Bool.and_eq_false_iff, Bool.or_eq_false_iff] at hs2
  refine RL.p T ?_
  refine RL.p T ?_
  exact hj
 ·repeat first | with_reducible exact Mx.refl | with_reducible exact Mx.mix | refine Mx.put rfl ?_ | refine Mx.upd rfl ?_ | refine Mx.updl rfl ?_ | refine Mx.fin rfl ?_ | refine Mx.inner rfl ?_ | refine Mx.none ?_ | exact Mx.refl | exact Mx.mix
 refine RL.or ?_
 refine RL.nil _ _ _ _ ?_
 refine hK2 _ _ _ ?_
 refine SW.cs (fun hc0 => ?_) (fun hc0 => ?_)
 ·skip
  first
   | (exfalso; first | omega | contradiction | (clear hK2 K2; clear hK1 K1; clear hK0 K0; simp at *; done))
   | (
    refine SW.seq_k fun K3 hK3 => ?_
    refine SW.region _ _ _ _ ?_
    refine RL.p T ?_
    refine RL.p T ?_
    refine RL.nil _ _ _ _ ?_
    refine hK3 _ _ _ ?_
    refine SW.ret ?_
    refine retQ.rr (H) ?_
    clear hK3 K3 hK2 K2 hK1 K1 hK0 K0
    exact ⟨rfl, rfl⟩
    )
 ·skip
  first
   | (exfalso; first | omega | contradiction | (clear hK2 K2; clear hK1 K1; clear hK0 K0; simp at *; done))
   | (
    refine SW.skip ?_
    refine hK1 _ _ _ ?_
    refine SW.seq_k fun K4 hK4 => ?_
    refine SW.region _ _ _ _ ?_
    refine RL.p T ?_
    refine RL.p T ?_
    refine RL.s ?_
    first | refine NV.buildc T rfl (rfl : _ = some [_, _, _, _, _]) ?_ | refine NV.buildz T rfl (rfl : _ = some [_, _, _, _, _]) ?_ | refine NV.pure T (rfl : _ = some (Value.agg #[_, _, _, _, _])) ?_
    refine RL.s ?_
    refine NV.box rfl (by exact (rfl : _ = [_, _, _, _, _])) ?_
    intro b23_0
    refine RL.p T ?_
    refine RL.p T ?_
    refine RL.nil _ _ _ _ ?_
    refine hK4 _ _ _ ?_
    refine SW.ret ?_
    refine retQ.rr (H) ?_
    clear hK4 K4 hK2 K2 hK1 K1 hK0 K0
    exact ⟨rfl, rfl⟩
    )
theorem new_ok {w0 : World} {H : List Chunk} (room wait : Nat) (h : 8 ≤ room ∧ room ≤ 2048 ∧ 1 ≤ wait ∧ wait ≤ 1000) : SC Tryd.prog w0 8 #[.int .i64 ((room : Nat) : Int), .int .i64 ((wait : Nat) : Int)] H (fun v H' => ∃ b, v = .tuple #[.pointer (some ⟨b, 0, none⟩), .int .i64 0] ∧ H' = .var b 55 [.int .i64 ((room : Nat) : Int), .int .i64 ((wait : Nat) : Int), .slice none 0 0, .int .i64 0, .int .i64 ((0 : Nat) : Int)] :: H) := by
 refine SC.enter Tryd.func8 rfl (Nat.le_of_ble_eq_true rfl) ?_
 refine SW.seq_k fun K0 hK0 => ?_
 refine SW.region _ _ _ _ ?_
 refine RL.p T ?_
 refine RL.p T ?_
 refine RL.nil _ _ _ _ ?_
 refine hK0 _ _ _ ?_
 refine SW.seq_k fun K1 hK1 => ?_
 refine SW.seq_k fun K2 hK2 => ?_
 refine SW.region _ _ _ _ ?_
 refine RL.p T ?_
 refine RL.p T ?_
 refine RL.p T ?_
 refine RL.join (fr1 := ?_) 2 8 false [9, 10] (fun hs0 hj => ?_) ?_ ?_
 rotate_left
 ·have hs0j := hs0
  try simp only [decide_eq_true_eq, Bool.not_eq_true', decide_eq_false_iff_not, Bool.not_eq_false', Int.not_lt, Int.not_le, Int.toNat_natCast, Bool.and_eq_true, Bool.or_eq_true, Bool.and_eq_false_iff, Bool.or_eq_false_iff] at hs0
  refine RL.p T ?_
  refine RL.p T ?_
  exact hj
 ·repeat first | with_reducible exact Mx.refl | with_reducible exact Mx.mix | refine Mx.put rfl ?_ | refine Mx.upd rfl ?_ | refine Mx.updl rfl ?_ | refine Mx.fin rfl ?_ | refine Mx.inner rfl ?_ | refine Mx.none ?_ | exact Mx.refl | exact Mx.mix
 refine RL.or ?_
 refine RL.p T ?_
 refine RL.join (fr1 := ?_) 2 12 false [13, 14] (fun hs1 hj => ?_) ?_ ?_
 rotate_left
 ·have hs1j := hs1
  try simp only [decide_eq_true_eq, Bool.not_eq_true', decide_eq_false_iff_not, Bool.not_eq_false', Int.not_lt, Int.not_le, Int.toNat_natCast, Bool.and_eq_true, Bool.or_eq_true, Bool.and_eq_false_iff, Bool.or_eq_false_iff] at hs1
  refine RL.p T ?_
  refine RL.p T ?_
  exact hj
 ·repeat first | with_reducible exact Mx.refl | with_reducible exact Mx.mix | refine Mx.put rfl ?_ | refine Mx.upd rfl ?_ | refine Mx.updl rfl ?_ | refine Mx.fin rfl ?_ | refine Mx.inner rfl ?_ | refine Mx.none ?_ | exact Mx.refl | exact Mx.mix
 refine RL.or ?_
 refine RL.p T ?_
 refine RL.join (fr1 := ?_) 2 16 false [17, 18] (fun hs2 hj => ?_) ?_ ?_
 rotate_left
 ·have hs2j := hs2
  try simp only [decide_eq_true_eq, Bool.not_eq_true', decide_eq_false_iff_not, Bool.not_eq_false', Int.not_lt, Int.not_le, Int.toNat_natCast, Bool.and_eq_true, Bool.or_eq_true, Bool.and_eq_false_iff, Bool.or_eq_false_iff] at hs2
  refine RL.p T ?_
  refine RL.p T ?_
  exact hj
 ·repeat first | with_reducible exact Mx.refl | with_reducible exact Mx.mix | refine Mx.put rfl ?_ | refine Mx.upd rfl ?_ | refine Mx.updl rfl ?_ | refine Mx.fin rfl ?_ | refine Mx.inner rfl ?_ | refine Mx.none ?_ | exact Mx.refl | exact Mx.mix
 refine RL.or ?_
 refine RL.nil _ _ _ _ ?_
 refine hK2 _ _ _ ?_
 refine SW.cs (fun hc0 => ?_) (fun hc0 => ?_)
 ·skip
  first
   | (exfalso; first | omega | contradiction | (clear hK2 K2; clear hK1 K1; clear hK0 K0; simp at *; done))
   | (
    refine SW.seq_k fun K3 hK3 => ?_
    refine SW.region _ _ _ _ ?_
    refine RL.p T ?_
    refine RL.p T ?_
    refine RL.nil _ _ _ _ ?_
    refine hK3 _ _ _ ?_
    refine SW.ret ?_
    refine retQ.rr _ ?_ (hH := fun w hw => hw)
    clear hK3 K3 hK2 K2 hK1 K1 hK0 K0
    exact ⟨_, rfl, rfl⟩
    )
 ·skip
  first
   | (exfalso; first | omega | contradiction | (clear hK2 K2; clear hK1 K1; clear hK0 K0; simp at *; done))
   | (
    refine SW.skip ?_
    refine hK1 _ _ _ ?_
    refine SW.seq_k fun K4 hK4 => ?_
    refine SW.region _ _ _ _ ?_
    refine RL.p T ?_
    refine RL.p T ?_
    refine RL.s ?_
    first | refine NV.buildc T rfl (rfl : _ = some [_, _, _, _, _]) ?_ | refine NV.buildz T rfl (rfl : _ = some [_, _, _, _, _]) ?_ | refine NV.pure T (rfl : _ = some (Value.agg #[_, _, _, _, _])) ?_
    refine RL.s ?_
    refine NV.box rfl (by exact (rfl : _ = [_, _, _, _, _])) ?_
    intro b23_0
    refine RL.p T ?_
    refine RL.p T ?_
    refine RL.nil _ _ _ _ ?_
    refine hK4 _ _ _ ?_
    refine SW.ret ?_
    refine retQ.rr _ ?_ (hH := fun w hw => hw)
    clear hK4 K4 hK2 K2 hK1 K1 hK0 K0
    exact ⟨_, rfl, rfl⟩
    )
theorem clone_nil {w0 : World} {H : List Chunk} (c : Nat) : SC Tryd.prog w0 21 #[.slice none 0 c] H (fun v H' => v = .slice none 0 0 ∧ H' = .row none 0 0 5 1 (List.map (Value.int .u8) ([])) :: H) := by
 refine SC.enter Tryd.func21 rfl (Nat.le_of_ble_eq_true rfl) ?_
 refine SW.seq_k fun K0 hK0 => ?_
 refine SW.region _ _ _ _ ?_
 refine RL.p T ?_
 refine RL.nil _ _ _ _ ?_
 refine hK0 _ _ _ ?_
 refine SW.seq_k fun K1 hK1 => ?_
 refine SW.seq_k fun K2 hK2 => ?_
 refine SW.region _ _ _ _ ?_
 refine RL.p T ?_
 refine RL.p T ?_
 refine RL.nil _ _ _ _ ?_
 refine hK2 _ _ _ ?_
 refine SW.cs (fun hc0 => ?_) (fun hc0 => ?_)
 ·skip
  first
   | (exfalso; first | omega | contradiction | (clear hK2 K2; clear hK1 K1; clear hK0 K0; simp at *; done))
   | (
    refine SW.seq_k fun K3 hK3 => ?_
    refine SW.nilrow 5 1 ?_
    refine SW.region _ _ _ _ ?_
    refine RL.p T ?_
    refine RL.nil _ _ _ _ ?_
    refine hK3 _ _ _ ?_
    refine SW.ret ?_
    refine retQ.rr ((.row none 0 0 5 1 (List.map (Value.int .u8) ([])) :: H)) ?_
    clear hK3 K3 hK2 K2 hK1 K1 hK0 K0
    exact ⟨rfl, rfl⟩
    )
 ·skip
  first
   | (exfalso; first | omega | contradiction | (clear hK2 K2; clear hK1 K1; clear hK0 K0; simp at *; done))
   | (
    refine SW.skip ?_
    refine hK1 _ _ _ ?_
    refine SW.seq_k fun K4 hK4 => ?_
    refine SW.region _ _ _ _ ?_
    refine RL.bs T rfl rfl rfl (by exact (rfl : _ = some [])) (fun b5_0 => ?_)
    refine RL.p T ?_
    first | refine RL.apI1 (ki := .u8) T (fun a0_ c0_ => ?_) | refine RL.apI (ki := .u8) T (fun a0_ c0_ => ?_) | refine RL.apI (ki := .u8) (xs := []) T (fun a0_ c0_ => ?_)
    refine RL.p T ?_
    refine RL.nil _ _ _ _ ?_
    refine hK4 _ _ _ ?_
    refine SW.ret ?_
    refine retQ.rr ((.row none 0 0 5 1 (List.map (Value.int .u8) ([])) :: H)) ?_
    clear hK4 K4 hK2 K2 hK1 K1 hK0 K0
    exact ⟨rfl, rfl⟩
    )
theorem clone_some {w0 : World} {H : List Chunk} (p : Addr) (n c : Nat) (es : List Int) (hR : Rd w0 H (some p) n c 1 (es.map (.int .u8))) (hm : n ≤ 140737488351232) : SC Tryd.prog w0 21 #[.slice (some p) n c] H (fun v H' => ∃ a c', v = .slice a n c' ∧ H' = .row a n c' 5 1 (List.map (Value.int .u8) (es)) :: H) := by
 refine SC.enter Tryd.func21 rfl (Nat.le_of_ble_eq_true rfl) ?_
 refine SW.seq_k fun K0 hK0 => ?_
 refine SW.region _ _ _ _ ?_
 refine RL.p T ?_
 refine RL.nil _ _ _ _ ?_
 refine hK0 _ _ _ ?_
 refine SW.seq_k fun K1 hK1 => ?_
 refine SW.seq_k fun K2 hK2 => ?_
 refine SW.region _ _ _ _ ?_
 refine RL.p T ?_
 refine RL.p T ?_
 refine RL.nil _ _ _ _ ?_
 refine hK2 _ _ _ ?_
 refine SW.cs (fun hc0 => ?_) (fun hc0 => ?_)
 ·skip
  first
   | (exfalso; first | omega | contradiction | (clear hK2 K2; clear hK1 K1; clear hK0 K0; simp at *; done))
   | (
    refine SW.seq_k fun K3 hK3 => ?_
    refine SW.region _ _ _ _ ?_
    refine RL.p T ?_
    refine RL.nil _ _ _ _ ?_
    refine hK3 _ _ _ ?_
    refine SW.ret ?_
    refine retQ.rr ((.row a0_ (0 + n) c0_ 5 1 (List.map (Value.int .u8) ([] ++ es)) :: H)) ?_
    clear hK3 K3 hK2 K2 hK1 K1 hK0 K0
    exact ⟨a0_, c0_, by rw [Nat.zero_add]; rfl, by rw [Nat.zero_add]; rfl⟩
    )
 ·skip
  first
   | (exfalso; first | omega | contradiction | (clear hK2 K2; clear hK1 K1; clear hK0 K0; simp at *; done))
   | (
    refine SW.skip ?_
    refine hK1 _ _ _ ?_
    refine SW.seq_k fun K4 hK4 => ?_
    refine SW.region _ _ _ _ ?_
    refine RL.bs T rfl rfl rfl (by exact (rfl : _ = some [])) (fun b5_0 => ?_)
    refine RL.p T ?_
    refine RL.apI (ki := .u8) (xs := []) (ys := es) T (fun a0_ c0_ => ?_) (hR := fun hs => hR.cons)
    refine RL.p T ?_
    refine RL.nil _ _ _ _ ?_
    refine hK4 _ _ _ ?_
    refine SW.ret ?_
    refine retQ.rr ((.row a0_ (0 + n) c0_ 5 1 (List.map (Value.int .u8) ([] ++ es)) :: H)) ?_
    clear hK4 K4 hK2 K2 hK1 K1 hK0 K0
    exact ⟨a0_, c0_, by rw [Nat.zero_add]; rfl, by rw [Nat.zero_add]; rfl⟩
    )
theorem clone {w0 : World} {H : List Chunk} (sa : Option Addr) (n c : Nat) (es : List Int) (hR : Rd w0 H sa n c 1 (es.map (.int .u8))) (hn : n = es.length) (hm : n ≤ 140737488351232) : SC Tryd.prog w0 21 #[.slice sa n c] H (fun v H' => ∃ a c', v = .slice a n c' ∧ H' = .row a n c' 5 1 (List.map (Value.int .u8) (es)) :: H) := by
  cases sa with
  | some p => exact clone_some p n c es hR hm
  | none =>
    have h0 : n = 0 := by
      rcases Nat.eq_zero_or_pos n with h | h
      · exact h
      · have := hR.some h; cases this
    subst h0
    obtain rfl : es = [] := List.eq_nil_of_length_eq_zero hn.symm
    exact (clone_nil c).mono fun _ _ ⟨h1, h2⟩ => ⟨none, 0, h1, h2⟩
theorem awayD {w0 : World} {H : List Chunk} (b2 b room wait age : Nat) (used : Int) (la : Option Addr) (ln lc : Nat) : SCD Tryd.prog w0 25 #[.pointer (some ⟨b2, 0, none⟩)] (.var b2 24 [.pointer (some ⟨b, 0, none⟩)] :: .var b 55 [.int .i64 ((room : Nat) : Int), .int .i64 ((wait : Nat) : Int), .slice la ln lc, .int .i64 used, .int .i64 ((age : Nat) : Int)] :: H) (fun v H' => H' = .var b2 24 [.pointer (some ⟨b, 0, none⟩)] :: .var b 55 [.int .i64 ((room : Nat) : Int), .int .i64 ((wait : Nat) : Int), .slice none 0 0, .int .i64 0, .int .i64 ((0 : Nat) : Int)] :: H) := by
 refine SCD.enter Tryd.func25 rfl (Nat.le_of_ble_eq_true rfl) ?_
 refine SW.region _ _ _ _ ?_
 first | refine RL.lv1 T ?_ | refine RL.le T ?_
 first | refine RL.lv1 T ?_ | refine RL.le T ?_
 first | refine RL.lv1 T ?_ | refine RL.le T ?_
 refine RL.p T ?_
 refine RL.p T ?_
 refine RL.s ?_
 first
   | refine NV.store_var1 T rfl rfl rfl rfl (by conv => lhs; whnf) rfl (by repeat first | exact At.head _ _ | assumption | exact At.put (by assumption) _ | apply At.tail | apply At.app) rfl rfl ?_
   | refine NV.store_var T rfl rfl rfl (by exact (rfl : _ = [_])) rfl rfl (by repeat first | exact At.head _ _ | assumption | exact At.put (by assumption) _ | apply At.tail | apply At.app) (Nat.le_of_ble_eq_true rfl) rfl ?_
   | refine NV.store_elem T rfl rfl rfl rfl (by conv => lhs; whnf) rfl (by repeat first | exact At.head _ _ | assumption | exact At.put (by assumption) _ | apply At.tail | apply At.app) (by omega) ?_
 refine RL.p T ?_
 refine RL.p T ?_
 refine RL.s ?_
 first
   | refine NV.store_var1 T rfl rfl rfl rfl (by conv => lhs; whnf) rfl (by repeat first | exact At.head _ _ | assumption | exact At.put (by assumption) _ | apply At.tail | apply At.app) rfl rfl ?_
   | refine NV.store_var T rfl rfl rfl (by exact (rfl : _ = [_])) rfl rfl (by repeat first | exact At.head _ _ | assumption | exact At.put (by assumption) _ | apply At.tail | apply At.app) (Nat.le_of_ble_eq_true rfl) rfl ?_
   | refine NV.store_elem T rfl rfl rfl rfl (by conv => lhs; whnf) rfl (by repeat first | exact At.head _ _ | assumption | exact At.put (by assumption) _ | apply At.tail | apply At.app) (by omega) ?_
 refine RL.p T ?_
 refine RL.p T ?_
 refine RL.s ?_
 first
   | refine NV.store_var1 T rfl rfl rfl rfl (by conv => lhs; whnf) rfl (by repeat first | exact At.head _ _ | assumption | exact At.put (by assumption) _ | apply At.tail | apply At.app) rfl rfl ?_
   | refine NV.store_var T rfl rfl rfl (by exact (rfl : _ = [_])) rfl rfl (by repeat first | exact At.head _ _ | assumption | exact At.put (by assumption) _ | apply At.tail | apply At.app) (Nat.le_of_ble_eq_true rfl) rfl ?_
   | refine NV.store_elem T rfl rfl rfl rfl (by conv => lhs; whnf) rfl (by repeat first | exact At.head _ _ | assumption | exact At.put (by assumption) _ | apply At.tail | apply At.app) (by omega) ?_
 refine RL.nil _ _ _ _ ?_
 try simp only [thenQ, blockQ, Nat.beq_refl, cond_true]
 refine retQ.nn ((.var b2 24 [.pointer (some ⟨b, 0, none⟩)] :: .var b 55 [.int .i64 ((room : Nat) : Int), .int .i64 ((wait : Nat) : Int), .slice none 0 0, .int .i64 0, .int .i64 ((0 : Nat) : Int)] :: H)) ?_
 rfl
theorem pjoinT {w0 : World} {H : List Chunk} (ps : List Pd) (sr : Option Addr) (nr cr : Nat) (hB : Rd w0 H sr nr cr 2 (ps.flatMap PdC)) (hnr : nr = ps.length) (h0 : 0 < ps.length) (hu : usedM (mg ps) ≤ 2048) (hps : ∀ k, PdOk w0 H (ps.getD k default)) : SC Tryd.prog w0 26 #[.slice sr nr cr] H (fun v H' => ∃ a c, v = .tuple #[.slice a (usedM (mg ps)) c, .int .i64 0] ∧ H' = .row a (usedM (mg ps)) c 5 1 (List.map (Value.int .u8) (joinB (mg ps))) :: H) := by
  have h1 := usedM_len (mg ps)
  have h2 := mg_len ps
  have h := pjoin (w0 := w0) (H := H) ps sr nr cr hB hnr (by omega) hps
  rw [joinV_mg h0 hu] at h
  simp only [joinB_len] at h
  exact h
theorem away_ok {w0 : World} {H : List Chunk} (b room wait age : Nat) (used : Int) (la : Option Addr) (ln lc : Nat) (l : List Pd) (hn : ln = l.length) (hu : used = (usedM (mg l) : Nat)) (hu2 : usedM (mg l) ≤ 2048) (h0 : 0 < l.length) (hok : ∀ y ∈ l, PdOk w0 H y) (oa : Option Addr) (on oc : Nat) (os : List Sl) (hos : on ≤ 100) : SC Tryd.prog w0 20 #[.pointer (some ⟨b, 0, none⟩), .slice oa on oc] (.row oa on oc 30 1 (List.flatMap SlC os) :: .var b 55 [.int .i64 ((room : Nat) : Int), .int .i64 ((wait : Nat) : Int), .slice la ln lc, .int .i64 used, .int .i64 ((age : Nat) : Int)] :: .row la ln lc 35 2 (List.flatMap PdC l) :: H) (fun v H' => ∃ oa' oc' a c, v = .slice oa' (on + 1) oc' ∧ H' = .row oa' (on + 1) oc' 30 1 (List.flatMap SlC (os ++ [(⟨a, usedM (mg l), c, joinB (mg l)⟩ : Sl)])) :: .var b 55 [.int .i64 ((room : Nat) : Int), .int .i64 ((wait : Nat) : Int), .slice none 0 0, .int .i64 0, .int .i64 ((0 : Nat) : Int)] :: .row none 0 0 35 2 (List.flatMap PdC []) :: .row a (usedM (mg l)) c 5 1 (List.map (Value.int .u8) (joinB (mg l))) :: .row la ln lc 35 2 (List.flatMap PdC l) :: H) := by
 refine SC.enterD Tryd.func20 rfl (Nat.le_of_ble_eq_true rfl) ?_
 refine SW.seq_k fun K0 hK0 => ?_
 refine SW.region _ _ _ _ ?_
 refine RL.s ?_
 refine NV.box rfl (by exact (rfl : _ = [_])) ?_
 intro b2_0
 refine RL.p T ?_
 refine RL.nil _ _ _ _ ?_
 refine hK0 _ _ _ ?_
 refine SW.seq_k fun K1 hK1 => ?_
 refine SW.seq_k fun K2 hK2 => ?_
 refine SW.region _ _ _ _ ?_
 refine RL.lv1 T ?_
 refine RL.p T ?_
 refine RL.p T ?_
 first | refine RL.lv1 T ?_ | refine RL.le T ?_
 refine RL.p T ?_
 refine RL.p T ?_
 refine RL.nil _ _ _ _ ?_
 refine hK2 _ _ _ ?_
 refine SW.cs (fun hc0 => ?_) (fun hc0 => ?_)
 ·skip
  first
   | (exfalso; first | omega | contradiction | (clear hK2 K2; clear hK1 K1; clear hK0 K0; simp at *; done))
   | (
    refine SW.seq_k fun K3 hK3 => ?_
    refine SW.region _ _ _ _ ?_
    refine RL.p T ?_
    refine RL.p T ?_
    refine RL.nil _ _ _ _ ?_
    refine hK3 _ _ _ ?_
    refine SW.ret ?_
    refine retD.one fun25 (fun hs => SCD.wk (awayD b2_0 b room wait age used la ln lc (H := .row a0_ (on + 1) c0_ 30 1 (List.flatMap SlC (os ++ [(⟨a1, usedM (mg l), c1, joinB (mg l)⟩ : Sl)])) :: .row a1 (usedM (mg l)) c1 5 1 (List.map (Value.int .u8) (joinB (mg l))) :: .row la ln lc 35 2 (List.flatMap PdC l) :: H))) ?_
    rintro _ _ e; obtain rfl := e.symm
    refine retQ.nilrow 35 2 ?_
    refine retQ.wk ((.row a0_ (on + 1) c0_ 30 1 (List.flatMap SlC (os ++ [(⟨a1, usedM (mg l), c1, joinB (mg l)⟩ : Sl)])) :: .var b 55 [.int .i64 ((room : Nat) : Int), .int .i64 ((wait : Nat) : Int), .slice none 0 0, .int .i64 0, .int .i64 ((0 : Nat) : Int)] :: .row none 0 0 35 2 (List.flatMap PdC []) :: .row a1 (usedM (mg l)) c1 5 1 (List.map (Value.int .u8) (joinB (mg l))) :: .row la ln lc 35 2 (List.flatMap PdC l) :: H)) ?_
    refine retQ.rr _ ?_ (hH := fun w hw => hw)
    clear hK3 K3 hK2 K2 hK1 K1 hK0 K0
    exact ⟨a0_, c0_, a1, c1, rfl, rfl⟩
    )
 ·skip
  first
   | (exfalso; first | omega | contradiction | (clear hK2 K2; clear hK1 K1; clear hK0 K0; simp at *; done))
   | (
    refine SW.skip ?_
    refine hK1 _ _ _ ?_
    refine SW.seq_k fun K4 hK4 => ?_
    refine SW.region _ _ _ _ ?_
    refine RL.p T ?_
    refine RL.df ?_
    refine RL.nil _ _ _ _ ?_
    refine hK4 _ _ _ ?_
    refine SW.seq_k fun K5 hK5 => ?_
    refine SW.region _ _ _ _ ?_
    refine RL.lv1 T ?_
    refine RL.p T ?_
    refine RL.p T ?_
    first | refine RL.lv1 T ?_ | refine RL.le T ?_
    refine RL.c fun26 (fun hs => pjoinT l la ln lc (Rd.rowh hs (by repeat first | exact At.head _ _ | apply At.tail | apply At.app)) hn h0 hu2 (fun k => (pd_mem hok k).cons.cons.cons.cons)) ?_
    rintro _ _ ⟨a1, c1, rfl, e⟩; obtain rfl := e.symm
    refine RL.p T ?_
    refine RL.p T ?_
    refine RL.p T ?_
    refine RL.p T ?_
    refine RL.p T ?_
    refine RL.nil _ _ _ _ ?_
    refine hK5 _ _ _ ?_
    refine SW.seq_k fun K6 hK6 => ?_
    refine SW.seq_k fun K7 hK7 => ?_
    refine SW.region _ _ _ _ ?_
    refine RL.p T ?_
    refine RL.p T ?_
    refine RL.nil _ _ _ _ ?_
    refine hK7 _ _ _ ?_
    refine SW.cs (fun hc1 => ?_) (fun hc1 => ?_)
    ·skip
     first
      | (exfalso; first | omega | contradiction | (clear hK7 K7; clear hK6 K6; clear hK5 K5; clear hK4 K4; clear hK2 K2; clear hK1 K1; clear hK0 K0; simp at *; done))
      | (
       refine SW.seq_k fun K8 hK8 => ?_
       refine SW.region _ _ _ _ ?_
       refine RL.p T ?_
       refine RL.p T ?_
       refine RL.nil _ _ _ _ ?_
       refine hK8 _ _ _ ?_
       refine SW.ret ?_
       refine retD.one fun25 (fun hs => SCD.wk (awayD b2_0 b room wait age used la ln lc (H := .row a0_ (on + 1) c0_ 30 1 (List.flatMap SlC (os ++ [(⟨a1, usedM (mg l), c1, joinB (mg l)⟩ : Sl)])) :: .row a1 (usedM (mg l)) c1 5 1 (List.map (Value.int .u8) (joinB (mg l))) :: .row la ln lc 35 2 (List.flatMap PdC l) :: H))) ?_
       rintro _ _ e; obtain rfl := e.symm
       refine retQ.nilrow 35 2 ?_
       refine retQ.wk ((.row a0_ (on + 1) c0_ 30 1 (List.flatMap SlC (os ++ [(⟨a1, usedM (mg l), c1, joinB (mg l)⟩ : Sl)])) :: .var b 55 [.int .i64 ((room : Nat) : Int), .int .i64 ((wait : Nat) : Int), .slice none 0 0, .int .i64 0, .int .i64 ((0 : Nat) : Int)] :: .row none 0 0 35 2 (List.flatMap PdC []) :: .row a1 (usedM (mg l)) c1 5 1 (List.map (Value.int .u8) (joinB (mg l))) :: .row la ln lc 35 2 (List.flatMap PdC l) :: H)) ?_
       refine retQ.rr _ ?_ (hH := fun w hw => hw)
       clear hK8 K8 hK7 K7 hK6 K6 hK5 K5 hK4 K4 hK2 K2 hK1 K1 hK0 K0
       exact ⟨a0_, c0_, a1, c1, rfl, rfl⟩
       )
    ·skip
     first
      | (exfalso; first | omega | contradiction | (clear hK7 K7; clear hK6 K6; clear hK5 K5; clear hK4 K4; clear hK2 K2; clear hK1 K1; clear hK0 K0; simp at *; done))
      | (
       refine SW.skip ?_
       refine hK6 _ _ _ ?_
       refine SW.seq_k fun K9 hK9 => ?_
       refine SW.region _ _ _ _ ?_
       refine RL.p T ?_
       refine RL.p T ?_
       refine RL.bs T rfl rfl rfl (by exact (rfl : _ = some [_])) (fun b28_1 => ?_)
       refine RL.apS T ([(⟨a1, usedM (mg l), c1, joinB (mg l)⟩ : Sl)]) (fun a0_ c0_ => ?_)
       refine RL.p T ?_
       refine RL.nil _ _ _ _ ?_
       refine hK9 _ _ _ ?_
       refine SW.ret ?_
       refine retD.one fun25 (fun hs => SCD.wk (awayD b2_0 b room wait age used la ln lc (H := .row a0_ (on + 1) c0_ 30 1 (List.flatMap SlC (os ++ [(⟨a1, usedM (mg l), c1, joinB (mg l)⟩ : Sl)])) :: .row a1 (usedM (mg l)) c1 5 1 (List.map (Value.int .u8) (joinB (mg l))) :: .row la ln lc 35 2 (List.flatMap PdC l) :: H))) ?_
       rintro _ _ e; obtain rfl := e.symm
       refine retQ.nilrow 35 2 ?_
       refine retQ.wk ((.row a0_ (on + 1) c0_ 30 1 (List.flatMap SlC (os ++ [(⟨a1, usedM (mg l), c1, joinB (mg l)⟩ : Sl)])) :: .var b 55 [.int .i64 ((room : Nat) : Int), .int .i64 ((wait : Nat) : Int), .slice none 0 0, .int .i64 0, .int .i64 ((0 : Nat) : Int)] :: .row none 0 0 35 2 (List.flatMap PdC []) :: .row a1 (usedM (mg l)) c1 5 1 (List.map (Value.int .u8) (joinB (mg l))) :: .row la ln lc 35 2 (List.flatMap PdC l) :: H)) ?_
       refine retQ.rr _ ?_ (hH := fun w hw => hw)
       clear hK9 K9 hK7 K7 hK6 K6 hK5 K5 hK4 K4 hK2 K2 hK1 K1 hK0 K0
       exact ⟨a0_, c0_, a1, c1, rfl, rfl⟩
       )
    )
theorem away_nil {w0 : World} {H : List Chunk} (b room wait age : Nat) (used : Int) (la : Option Addr) (lc : Nat) (oa : Option Addr) (on oc : Nat) : SC Tryd.prog w0 20 #[.pointer (some ⟨b, 0, none⟩), .slice oa on oc] (.var b 55 [.int .i64 ((room : Nat) : Int), .int .i64 ((wait : Nat) : Int), .slice la 0 lc, .int .i64 used, .int .i64 ((age : Nat) : Int)] :: H) (fun v H' => v = .slice oa on oc ∧ H' = .var b 55 [.int .i64 ((room : Nat) : Int), .int .i64 ((wait : Nat) : Int), .slice la 0 lc, .int .i64 used, .int .i64 ((age : Nat) : Int)] :: H) := by
 refine SC.enterD Tryd.func20 rfl (Nat.le_of_ble_eq_true rfl) ?_
 refine SW.seq_k fun K0 hK0 => ?_
 refine SW.region _ _ _ _ ?_
 refine RL.s ?_
 refine NV.box rfl (by exact (rfl : _ = [_])) ?_
 intro b2_0
 refine RL.p T ?_
 refine RL.nil _ _ _ _ ?_
 refine hK0 _ _ _ ?_
 refine SW.seq_k fun K1 hK1 => ?_
 refine SW.seq_k fun K2 hK2 => ?_
 refine SW.region _ _ _ _ ?_
 refine RL.lv1 T ?_
 refine RL.p T ?_
 refine RL.p T ?_
 first | refine RL.lv1 T ?_ | refine RL.le T ?_
 refine RL.p T ?_
 refine RL.p T ?_
 refine RL.nil _ _ _ _ ?_
 refine hK2 _ _ _ ?_
 refine SW.cs (fun hc0 => ?_) (fun hc0 => ?_)
 ·skip
  first
   | (exfalso; first | omega | contradiction | (clear hK2 K2; clear hK1 K1; clear hK0 K0; simp at *; done))
   | (
    refine SW.seq_k fun K3 hK3 => ?_
    refine SW.region _ _ _ _ ?_
    refine RL.p T ?_
    refine RL.p T ?_
    refine RL.nil _ _ _ _ ?_
    refine hK3 _ _ _ ?_
    refine SW.ret ?_
    refine retD.of ?_
    refine retQ.rr ((.var b 55 [.int .i64 ((room : Nat) : Int), .int .i64 ((wait : Nat) : Int), .slice la 0 lc, .int .i64 used, .int .i64 ((age : Nat) : Int)] :: H)) ?_
    clear hK3 K3 hK2 K2 hK1 K1 hK0 K0
    exact ⟨rfl, rfl⟩
    )
 ·skip
  exfalso; first | omega | contradiction | (clear hK2 K2; clear hK1 K1; clear hK0 K0; simp at *; done)
end Go.Proofs.YtlgdfoniijmlbaaDoor.M
