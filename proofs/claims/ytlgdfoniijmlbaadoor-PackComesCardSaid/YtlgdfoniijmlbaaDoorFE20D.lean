import Derived.Test.YtlgdfoniijmlbaaDoorProg
import Derived.Test.YtlgdfoniijmlbaaDoorFD20D
set_option linter.unusedVariables false
set_option linter.unusedSimpArgs false
namespace Go.Proofs.YtlgdfoniijmlbaaDoor.M
open Go Go.Sep Go.Proofs
set_option maxRecDepth 10000
set_option maxHeartbeats 2000000
theorem tickV {w0 : World} {H : List Chunk} (b room wait age : Nat) (used : Int) (la : Option Addr) (ln lc : Nat) (l : List Pd) (hn : ln = l.length) (hu : used = (usedM (mg l) : Nat)) (hu2 : usedM (mg l) ≤ 2048) (hok : ∀ y ∈ l, PdOk w0 H y) (h8 : 8 ≤ room) (hr2 : room ≤ 2048) (ha : age < wait) (hw : wait ≤ 1000) : SC Tryd.prog w0 16 #[.pointer (some ⟨b, 0, none⟩)] (.var b 55 [.int .i64 ((room : Nat) : Int), .int .i64 ((wait : Nat) : Int), .slice la ln lc, .int .i64 used, .int .i64 ((age : Nat) : Int)] :: .row la ln lc 35 2 (List.flatMap PdC l) :: H) (fun v H' => ∃ D oa' on' oc' os' la' ln' lc' l' age' used', v = .slice oa' on' oc' ∧ H' = .row oa' on' oc' 30 1 (List.flatMap SlC os') :: .var b 55 [.int .i64 ((room : Nat) : Int), .int .i64 ((wait : Nat) : Int), .slice la' ln' lc', .int .i64 used', .int .i64 ((age' : Nat) : Int)] :: .row la' ln' lc' 35 2 (List.flatMap PdC l') :: (D ++ H) ∧ on' = os'.length ∧ ln' = l'.length ∧ used' = (usedM (mg l') : Nat) ∧ outD os' = tickO wait (mg l) age ∧ mg l' = tickL wait (mg l) age ∧ age' = tickA wait (mg l) age ∧ (∀ q ∈ os', SlOk w0 D q) ∧ (∀ y ∈ l', y ∈ l ∨ PdOk w0 D y)) := by
 refine SC.enter Tryd.func16 rfl (Nat.le_of_ble_eq_true rfl) ?_
 refine SW.seq_k fun K0 hK0 => ?_
 refine SW.nilrow 30 1 ?_
 have hm0 : mg l = [] ↔ ln = 0 := by rw [mg_nil, hn, List.length_eq_zero_iff]
 refine SW.region _ _ _ _ ?_
 refine RL.p T ?_
 refine RL.nil _ _ _ _ ?_
 refine hK0 _ _ _ ?_
 refine SW.seq_k fun K1 hK1 => ?_
 refine SW.seq_k fun K2 hK2 => ?_
 refine SW.region _ _ _ _ ?_
 refine RL.p T ?_
 refine RL.p T ?_
 refine RL.p T ?_
 refine RL.p T ?_
 refine RL.p T ?_
 refine RL.p T ?_
 first | refine RL.lv1 T ?_ | refine RL.le T ?_
 refine RL.p T ?_
 refine RL.p T ?_
 refine RL.p T ?_
 refine RL.nil _ _ _ _ ?_
 refine hK2 _ _ _ ?_
 refine SW.cs (fun hc0 => ?_) (fun hc0 => ?_)
 ·skip
  first
   | (exfalso; first | omega | contradiction | (clear hK2 K2; clear hK1 K1; clear hK0 K0; simp at *; done))
   | (
    refine SW.seq_k fun K3 hK3 => ?_
    refine SW.region _ _ _ _ ?_
    refine RL.p T ?_
    refine RL.nil _ _ _ _ ?_
    refine hK3 _ _ _ ?_
    refine SW.ret ?_
    refine retQ.wk (.row none 0 0 30 1 (List.flatMap SlC []) :: .var b 55 [.int .i64 ((room : Nat) : Int), .int .i64 ((wait : Nat) : Int), .slice la ln lc, .int .i64 used, .int .i64 ((age : Nat) : Int)] :: .row la ln lc 35 2 (List.flatMap PdC l) :: ([] ++ H)) ?_
    refine retQ.rr _ ?_ (hH := fun w hw => hw)
    clear hK3 K3 hK2 K2 hK1 K1 hK0 K0
    have h0 : mg l = [] := hm0.2 (by omega)
    exact ⟨[], none, 0, 0, [], la, ln, lc, l, age, used, rfl, rfl, rfl, hn, hu, by rw [tickO, if_pos h0]; rfl, by rw [tickL, if_pos h0], by rw [tickA, if_pos h0], by simp, fun y hy => .inl hy⟩
    )
 ·skip
  first
   | (exfalso; first | omega | contradiction | (clear hK2 K2; clear hK1 K1; clear hK0 K0; simp at *; done))
   | (
    refine SW.skip ?_
    refine hK1 _ _ _ ?_
    refine SW.seq_k fun K4 hK4 => ?_
    refine SW.region _ _ _ _ ?_
    refine RL.p T ?_
    refine RL.p T ?_
    refine RL.p T ?_
    first | refine RL.lv1 T ?_ | refine RL.le T ?_
    first | refine RL.ar ?_ | refine RL.p T ?_
    rw [show ((age : Nat) : Int) + 1 = ((age + 1 : Nat) : Int) from rfl]
    refine RL.p T ?_
    refine RL.p T ?_
    refine RL.s ?_
    first
      | refine NV.store_var1 T rfl rfl rfl rfl (by conv => lhs; whnf) rfl (by repeat first | exact At.head _ _ | assumption | exact At.put (by assumption) _ | apply At.tail | apply At.app) rfl rfl ?_
      | refine NV.store_var T rfl rfl rfl (by exact (rfl : _ = [_])) rfl rfl (by repeat first | exact At.head _ _ | assumption | exact At.put (by assumption) _ | apply At.tail | apply At.app) (Nat.le_of_ble_eq_true rfl) rfl ?_
      | refine NV.store_elem T rfl rfl rfl rfl (by conv => lhs; whnf) rfl (by repeat first | exact At.head _ _ | assumption | exact At.put (by assumption) _ | apply At.tail | apply At.app) (by omega) ?_
    refine RL.nil _ _ _ _ ?_
    refine hK4 _ _ _ ?_
    refine SW.seq_k fun K5 hK5 => ?_
    refine SW.seq_k fun K6 hK6 => ?_
    refine SW.drawQ [(20, 0), (21, 1), (22, 2), (23, 3), (24, 4), (25, 5), (26, 6), (27, 7), (28, 8)] [[], [0], [1, 0], [2, 1, 0], [], [4], [5, 4], [6, 5, 4], [3, 2, 1, 0, 7, 6, 5, 4]] mixed (by kernel_rfl) (by kernel_rfl) ?_
    refine QL.p T ?_
    refine QL.p T ?_
    refine QL.p T ?_
    first | refine QL.lv1 T ?_ | refine QL.le T ?_
    refine QL.p T ?_
    refine QL.p T ?_
    refine QL.p T ?_
    first | refine QL.lv1 T ?_ | refine QL.le T ?_
    refine QL.p T ?_
    refine QL.nil ?_
    refine hK6 _ _ _ ?_
    refine SW.cs (fun hc1 => ?_) (fun hc1 => ?_)
    ·skip
     first
      | (exfalso; first | omega | contradiction | (clear hK6 K6; clear hK5 K5; clear hK4 K4; clear hK2 K2; clear hK1 K1; clear hK0 K0; simp at *; done))
      | (
       refine SW.seq_k fun K7 hK7 => ?_
       refine SW.region _ _ _ _ ?_
       refine RL.p T ?_
       refine RL.nil _ _ _ _ ?_
       refine hK7 _ _ _ ?_
       refine SW.ret ?_
       refine retQ.wk (.row none 0 0 30 1 (List.flatMap SlC []) :: .var b 55 [.int .i64 ((room : Nat) : Int), .int .i64 ((wait : Nat) : Int), .slice la ln lc, .int .i64 used, .int .i64 (((age + 1) : Nat) : Int)] :: .row la ln lc 35 2 (List.flatMap PdC l) :: ([] ++ H)) ?_
       refine retQ.rr _ ?_ (hH := fun w hw => hw)
       clear hK7 K7 hK6 K6 hK5 K5 hK4 K4 hK2 K2 hK1 K1 hK0 K0
       have h0 : ¬ mg l = [] := fun e => by have := hm0.1 e; omega
       exact ⟨[], none, 0, 0, [], la, ln, lc, l, (age + 1), used, rfl, rfl, rfl, hn, hu, by rw [tickO, if_neg h0, if_pos (by omega)]; rfl, by rw [tickL, if_neg h0, if_pos (by omega)], by rw [tickA, if_neg h0, if_pos (by omega)], by simp, fun y hy => .inl hy⟩
       )
    ·skip
     first
      | (exfalso; first | omega | contradiction | (clear hK6 K6; clear hK5 K5; clear hK4 K4; clear hK2 K2; clear hK1 K1; clear hK0 K0; simp at *; done))
      | (
       refine SW.skip ?_
       refine hK5 _ _ _ ?_
       refine SW.seq_k fun K8 hK8 => ?_
       refine SW.region _ _ _ _ ?_
       refine RL.p T ?_
       refine RL.c fun20 (fun hs => SC.wk (awayV b room wait (age + 1) used la ln lc l hn hu hu2 hok none 0 0 [] (by omega) rfl (H := H))) ?_
       rintro _ _ ⟨D1, oa1, on1, oc1, os1, la1, ln1, lc1, l1, age1, us1, rfl, e, hon1, hln1, hus1, hos1, hl1, hag1, hoq1, hly1⟩; obtain rfl := e.symm
       refine RL.p T ?_
       refine RL.nil _ _ _ _ ?_
       refine hK8 _ _ _ ?_
       refine SW.ret ?_
       refine retQ.wk (.row oa1 on1 oc1 30 1 (List.flatMap SlC os1) :: .var b 55 [.int .i64 ((room : Nat) : Int), .int .i64 ((wait : Nat) : Int), .slice la1 ln1 lc1, .int .i64 us1, .int .i64 ((age1 : Nat) : Int)] :: .row la1 ln1 lc1 35 2 (List.flatMap PdC l1) :: (D1 ++ H)) ?_
       refine retQ.rr _ ?_ (hH := fun w hw => hw)
       clear hK8 K8 hK6 K6 hK5 K5 hK4 K4 hK2 K2 hK1 K1 hK0 K0
       have h0 : ¬ mg l = [] := fun e => by have := hm0.1 e; omega
       exact ⟨D1, oa1, on1, oc1, os1, la1, ln1, lc1, l1, age1, us1, rfl, rfl, hon1, hln1, hus1, by rw [tickO, if_neg h0, if_neg (by omega), hos1, flushO, if_neg h0]; rfl, by rw [tickL, if_neg h0, if_neg (by omega), hl1], by rw [tickA, if_neg h0, if_neg (by omega), hag1, if_neg (fun e => h0 (mg_nil.2 e))], fun q hq => (hoq1 q hq).resolve_left (by simp), hly1⟩
       )
    )
theorem flushV {w0 : World} {H : List Chunk} (b room wait age : Nat) (used : Int) (la : Option Addr) (ln lc : Nat) (l : List Pd) (hn : ln = l.length) (hu : used = (usedM (mg l) : Nat)) (hu2 : usedM (mg l) ≤ 2048) (hok : ∀ y ∈ l, PdOk w0 H y) : SC Tryd.prog w0 10 #[.pointer (some ⟨b, 0, none⟩)] (.var b 55 [.int .i64 ((room : Nat) : Int), .int .i64 ((wait : Nat) : Int), .slice la ln lc, .int .i64 used, .int .i64 ((age : Nat) : Int)] :: .row la ln lc 35 2 (List.flatMap PdC l) :: H) (fun v H' => ∃ D oa' on' oc' os' la' ln' lc' l' age' used', v = .slice oa' on' oc' ∧ H' = .row oa' on' oc' 30 1 (List.flatMap SlC os') :: .var b 55 [.int .i64 ((room : Nat) : Int), .int .i64 ((wait : Nat) : Int), .slice la' ln' lc', .int .i64 used', .int .i64 ((age' : Nat) : Int)] :: .row la' ln' lc' 35 2 (List.flatMap PdC l') :: (D ++ H) ∧ on' = os'.length ∧ ln' = l'.length ∧ used' = (usedM (mg l') : Nat) ∧ outD os' = flushO (mg l) ∧ mg l' = [] ∧ age' = (if l = [] then age else 0) ∧ (∀ q ∈ os', SlOk w0 D q) ∧ (∀ y ∈ l', y ∈ l ∨ PdOk w0 D y)) := by
 refine SC.enter Tryd.func10 rfl (Nat.le_of_ble_eq_true rfl) ?_
 refine SW.seq_k fun K0 hK0 => ?_
 refine SW.region _ _ _ _ ?_
 refine RL.p T ?_
 refine RL.nil _ _ _ _ ?_
 refine hK0 _ _ _ ?_
 refine SW.seq_k fun K1 hK1 => ?_
 refine SW.seq_k fun K2 hK2 => ?_
 refine SW.region _ _ _ _ ?_
 refine RL.p T ?_
 refine RL.p T ?_
 refine RL.nil _ _ _ _ ?_
 refine hK2 _ _ _ ?_
 refine SW.cs (fun hc0 => ?_) (fun hc0 => ?_)
 ·skip
  first
   | (exfalso; first | omega | contradiction | (clear hK2 K2; clear hK1 K1; clear hK0 K0; simp at *; done))
   | (
    refine SW.seq_k fun K3 hK3 => ?_
    refine SW.region _ _ _ _ ?_
    refine RL.p T ?_
    refine RL.nil _ _ _ _ ?_
    refine hK3 _ _ _ ?_
    refine SW.ret ?_
    refine retQ.wk (.row oa1 on1 oc1 30 1 (List.flatMap SlC os1) :: .var b 55 [.int .i64 ((room : Nat) : Int), .int .i64 ((wait : Nat) : Int), .slice la1 ln1 lc1, .int .i64 us1, .int .i64 ((age1 : Nat) : Int)] :: .row la1 ln1 lc1 35 2 (List.flatMap PdC l1) :: (D1 ++ H)) ?_
    refine retQ.rr _ ?_ (hH := fun w hw => hw)
    clear hK3 K3 hK2 K2 hK1 K1 hK0 K0
    exact ⟨D1, oa1, on1, oc1, os1, la1, ln1, lc1, l1, age1, us1, rfl, rfl, hon1, hln1, hus1, hos1, hl1, hag1, fun q hq => (hoq1 q hq).resolve_left (by simp), hly1⟩
    )
 ·skip
  first
   | (exfalso; first | omega | contradiction | (clear hK2 K2; clear hK1 K1; clear hK0 K0; simp at *; done))
   | (
    refine SW.skip ?_
    refine hK1 _ _ _ ?_
    refine SW.seq_k fun K4 hK4 => ?_
    refine SW.nilrow 30 1 ?_
    refine SW.region _ _ _ _ ?_
    refine RL.p T ?_
    refine RL.c fun20 (fun hs => SC.wk (awayV b room wait age used la ln lc l hn hu hu2 hok none 0 0 [] (by omega) rfl (H := H))) ?_
    rintro _ _ ⟨D1, oa1, on1, oc1, os1, la1, ln1, lc1, l1, age1, us1, rfl, e, hon1, hln1, hus1, hos1, hl1, hag1, hoq1, hly1⟩; obtain rfl := e.symm
    refine RL.p T ?_
    refine RL.nil _ _ _ _ ?_
    refine hK4 _ _ _ ?_
    refine SW.ret ?_
    refine retQ.wk (.row oa1 on1 oc1 30 1 (List.flatMap SlC os1) :: .var b 55 [.int .i64 ((room : Nat) : Int), .int .i64 ((wait : Nat) : Int), .slice la1 ln1 lc1, .int .i64 us1, .int .i64 ((age1 : Nat) : Int)] :: .row la1 ln1 lc1 35 2 (List.flatMap PdC l1) :: (D1 ++ H)) ?_
    refine retQ.rr _ ?_ (hH := fun w hw => hw)
    clear hK4 K4 hK2 K2 hK1 K1 hK0 K0
    exact ⟨D1, oa1, on1, oc1, os1, la1, ln1, lc1, l1, age1, us1, rfl, rfl, hon1, hln1, hus1, hos1, hl1, hag1, fun q hq => (hoq1 q hq).resolve_left (by simp), hly1⟩
    )
theorem tick_nil {w0 : World} {H : List Chunk}  : SC Tryd.prog w0 16 #[.pointer none] H (fun v H' => v = .slice none 0 0 ∧ H' = H) := by
 refine SC.enter Tryd.func16 rfl (Nat.le_of_ble_eq_true rfl) ?_
 refine SW.seq_k fun K0 hK0 => ?_
 refine SW.region _ _ _ _ ?_
 refine RL.p T ?_
 refine RL.nil _ _ _ _ ?_
 refine hK0 _ _ _ ?_
 refine SW.seq_k fun K1 hK1 => ?_
 refine SW.seq_k fun K2 hK2 => ?_
 refine SW.region _ _ _ _ ?_
 refine RL.p T ?_
 refine RL.p T ?_
 refine RL.p T ?_
 refine RL.sp 5 (fun hs0 => ?_) (fun hs0 => ?_)
 ·skip
  first
   | (exfalso; first | omega | contradiction | (clear hK2 K2; clear hK1 K1; clear hK0 K0; simp at *; done))
   | (
    refine RL.guard_no rfl rfl rfl ?_
    refine RL.guard_no rfl rfl rfl ?_
    refine RL.guard_no rfl rfl rfl ?_
    refine RL.guard_no rfl rfl rfl ?_
    refine RL.guard_no rfl rfl rfl ?_
    refine RL.guard_no rfl rfl rfl ?_
    refine RL.p T ?_
    refine RL.nil _ _ _ _ ?_
    refine hK2 _ _ _ ?_
    refine SW.cond_t rfl ?_
    refine SW.seq_k fun K3 hK3 => ?_
    refine SW.region _ _ _ _ ?_
    refine RL.p T ?_
    refine RL.nil _ _ _ _ ?_
    refine hK3 _ _ _ ?_
    refine SW.ret ?_
    refine retQ.rr (H) ?_
    clear hK3 K3 hK2 K2 hK1 K1 hK0 K0
    exact ⟨rfl, rfl⟩
    )
 ·skip
  first
   | (exfalso; first | omega | contradiction | (clear hK2 K2; clear hK1 K1; clear hK0 K0; simp at *; done))
   | (
    refine RL.p T ?_
    refine RL.p T ?_
    refine RL.p T ?_
    first | refine RL.lv1 T ?_ | refine RL.le T ?_
    refine RL.p T ?_
    refine RL.p T ?_
    refine RL.p T ?_
    refine RL.nil _ _ _ _ ?_
    refine hK2 _ _ _ ?_
    refine SW.cs (fun hc0 => ?_) (fun hc0 => ?_)
    ·skip
     first
      | (exfalso; first | omega | contradiction | (clear hK2 K2; clear hK1 K1; clear hK0 K0; simp at *; done))
      | (
       refine SW.seq_k fun K4 hK4 => ?_
       refine SW.region _ _ _ _ ?_
       refine RL.p T ?_
       refine RL.nil _ _ _ _ ?_
       refine hK4 _ _ _ ?_
       refine SW.ret ?_
       refine retQ.rr (H) ?_
       clear hK4 K4 hK2 K2 hK1 K1 hK0 K0
       exact ⟨rfl, rfl⟩
       )
    ·skip
     first
      | (exfalso; first | omega | contradiction | (clear hK2 K2; clear hK1 K1; clear hK0 K0; simp at *; done))
      | (
       refine SW.skip ?_
       refine hK1 _ _ _ ?_
       refine SW.seq_k fun K5 hK5 => ?_
       refine SW.region _ _ _ _ ?_
       refine RL.p T ?_
       refine RL.p T ?_
       refine RL.p T ?_
       first | refine RL.lv1 T ?_ | refine RL.le T ?_
       first | refine RL.ar ?_ | refine RL.p T ?_
       refine RL.p T ?_
       refine RL.p T ?_
       refine RL.s ?_
       first
         | refine NV.store_var1 T rfl rfl rfl rfl (by conv => lhs; whnf) rfl (by repeat first | exact At.head _ _ | assumption | exact At.put (by assumption) _ | apply At.tail | apply At.app) rfl rfl ?_
         | refine NV.store_var T rfl rfl rfl (by exact (rfl : _ = [_])) rfl rfl (by repeat first | exact At.head _ _ | assumption | exact At.put (by assumption) _ | apply At.tail | apply At.app) (Nat.le_of_ble_eq_true rfl) rfl ?_
         | refine NV.store_elem T rfl rfl rfl rfl (by conv => lhs; whnf) rfl (by repeat first | exact At.head _ _ | assumption | exact At.put (by assumption) _ | apply At.tail | apply At.app) (by omega) ?_
       refine RL.nil _ _ _ _ ?_
       refine hK5 _ _ _ ?_
       refine SW.seq_k fun K6 hK6 => ?_
       refine SW.seq_k fun K7 hK7 => ?_
       refine SW.drawQ [(20, 0), (21, 1), (22, 2), (23, 3), (24, 4), (25, 5), (26, 6), (27, 7), (28, 8)] [[], [0], [1, 0], [2, 1, 0], [], [4], [5, 4], [6, 5, 4], [3, 2, 1, 0, 7, 6, 5, 4]] mixed (by kernel_rfl) (by kernel_rfl) ?_
       refine QL.p T ?_
       refine QL.p T ?_
       refine QL.p T ?_
       first | refine QL.lv1 T ?_ | refine QL.le T ?_
       refine QL.p T ?_
       refine QL.p T ?_
       refine QL.p T ?_
       first | refine QL.lv1 T ?_ | refine QL.le T ?_
       refine QL.p T ?_
       refine QL.nil ?_
       refine hK7 _ _ _ ?_
       refine SW.cs (fun hc1 => ?_) (fun hc1 => ?_)
       ·skip
        first
         | (exfalso; first | omega | contradiction | (clear hK7 K7; clear hK6 K6; clear hK5 K5; clear hK2 K2; clear hK1 K1; clear hK0 K0; simp at *; done))
         | (
          refine SW.seq_k fun K8 hK8 => ?_
          refine SW.region _ _ _ _ ?_
          refine RL.p T ?_
          refine RL.nil _ _ _ _ ?_
          refine hK8 _ _ _ ?_
          refine SW.ret ?_
          refine retQ.rr (H) ?_
          clear hK8 K8 hK7 K7 hK6 K6 hK5 K5 hK2 K2 hK1 K1 hK0 K0
          exact ⟨rfl, rfl⟩
          )
       ·skip
        exfalso; first | omega | contradiction | (clear hK7 K7; clear hK6 K6; clear hK5 K5; clear hK2 K2; clear hK1 K1; clear hK0 K0; simp at *; done)
       )
    )
theorem ageC {w0 : World} {H : List Chunk} (b room wait age : Nat) (used : Int) (la : Option Addr) (ln lc : Nat) {kk : Chunk → List Chunk} (hat : At H (.var b 55 [.int .i64 ((room : Nat) : Int), .int .i64 ((wait : Nat) : Int), .slice la ln lc, .int .i64 used, .int .i64 ((age : Nat) : Int)]) kk) : SC Tryd.prog w0 19 #[.pointer (some ⟨b, 0, none⟩)] H (fun v H' => v = .int .i64 ((age : Nat) : Int) ∧ H' = H) := by
 refine SC.enter Tryd.func19 rfl (Nat.le_of_ble_eq_true rfl) ?_
 refine SW.seq_k fun K0 hK0 => ?_
 refine SW.region _ _ _ _ ?_
 refine RL.p T ?_
 refine RL.nil _ _ _ _ ?_
 refine hK0 _ _ _ ?_
 refine SW.seq_k fun K1 hK1 => ?_
 refine SW.seq_k fun K2 hK2 => ?_
 refine SW.region _ _ _ _ ?_
 refine RL.p T ?_
 refine RL.p T ?_
 refine RL.nil _ _ _ _ ?_
 refine hK2 _ _ _ ?_
 refine SW.cs (fun hc0 => ?_) (fun hc0 => ?_)
 ·skip
  first
   | (exfalso; first | omega | contradiction | (clear hK2 K2; clear hK1 K1; clear hK0 K0; simp at *; done))
   | (
    refine SW.seq_k fun K3 hK3 => ?_
    refine SW.region _ _ _ _ ?_
    refine RL.p T ?_
    refine RL.nil _ _ _ _ ?_
    refine hK3 _ _ _ ?_
    refine SW.ret ?_
    refine retQ.rr (H) ?_
    clear hK3 K3 hK2 K2 hK1 K1 hK0 K0
    exact ⟨rfl, rfl⟩
    )
 ·skip
  first
   | (exfalso; first | omega | contradiction | (clear hK2 K2; clear hK1 K1; clear hK0 K0; simp at *; done))
   | (
    refine SW.skip ?_
    refine hK1 _ _ _ ?_
    refine SW.seq_k fun K4 hK4 => ?_
    refine SW.region _ _ _ _ ?_
    refine RL.p T ?_
    refine RL.p T ?_
    refine RL.p T ?_
    first | refine RL.lv1 T ?_ | refine RL.le T ?_
    refine RL.p T ?_
    refine RL.nil _ _ _ _ ?_
    refine hK4 _ _ _ ?_
    refine SW.ret ?_
    refine retQ.rr (H) ?_
    clear hK4 K4 hK2 K2 hK1 K1 hK0 K0
    exact ⟨rfl, rfl⟩
    )
theorem waits {w0 : World} {H : List Chunk} (b room wait age : Nat) (used : Int) (la : Option Addr) (ln lc : Nat) {kk : Chunk → List Chunk} (hat : At H (.var b 55 [.int .i64 ((room : Nat) : Int), .int .i64 ((wait : Nat) : Int), .slice la ln lc, .int .i64 used, .int .i64 ((age : Nat) : Int)]) kk) (l : List Pd) (hB : Rd w0 H la ln lc 2 (l.flatMap PdC)) (hn : ln = l.length) (hln : ln ≤ 4000) (hok : ∀ y ∈ l, PdOk w0 H y) : SC Tryd.prog w0 13 #[.pointer (some ⟨b, 0, none⟩)] H (fun v H' => ∃ D a c ws, v = .slice a ln c ∧ H' = .row a ln c 35 2 (List.flatMap PdC ws) :: (D ++ H) ∧ mg ws = mg l ∧ (∀ y ∈ ws, PdOk w0 D y)) := by
 refine SC.enter Tryd.func13 rfl (Nat.le_of_ble_eq_true rfl) ?_
 refine SW.seq_k fun K0 hK0 => ?_
 refine SW.region _ _ _ _ ?_
 refine RL.p T ?_
 refine RL.nil _ _ _ _ ?_
 refine hK0 _ _ _ ?_
 refine SW.seq_k fun K1 hK1 => ?_
 refine SW.seq_k fun K2 hK2 => ?_
 refine SW.region _ _ _ _ ?_
 refine RL.p T ?_
 refine RL.p T ?_
 refine RL.nil _ _ _ _ ?_
 refine hK2 _ _ _ ?_
 refine SW.cs (fun hc0 => ?_) (fun hc0 => ?_)
 ·skip
  first
   | (exfalso; first | omega | contradiction | (clear hK2 K2; clear hK1 K1; clear hK0 K0; simp at *; done))
   | (
    refine SW.seq_k fun K3 hK3 => ?_
    refine SW.region _ _ _ _ ?_
    refine RL.p T ?_
    refine RL.nil _ _ _ _ ?_
    refine hK3 _ _ _ ?_
    refine SW.ret ?_
    refine retQ.rr ((.row a k c 35 2 (List.flatMap PdC ws) :: (D ++ H))) ?_
    clear hK3 K3 hK2 K2 hK1 K1 hK0 K0
    obtain rfl : k = ln := by omega
    exact ⟨D, a, c, ws, rfl, rfl, by rw [hws, List.take_of_length_le (by rw [mg_len]; omega)], hwo⟩
    )
 ·skip
  first
   | (exfalso; first | omega | contradiction | (clear hK2 K2; clear hK1 K1; clear hK0 K0; simp at *; done))
   | (
    refine SW.skip ?_
    refine hK1 _ _ _ ?_
    refine SW.seq_k fun K4 hK4 => ?_
    refine SW.seq_k fun K5 hK5 => ?_
    refine SW.nilrow 35 2 ?_
    refine SW.region _ _ _ _ ?_
    refine RL.p T ?_
    refine RL.p T ?_
    refine RL.p T ?_
    first | refine RL.lv1 T ?_ | refine RL.le T ?_ (hR := fun hs => (by first | exact hB.cons.app.cons | (repeat first | exact hB | apply Rd.cons | apply Rd.app)))
    refine RL.p T ?_
    refine RL.p T ?_
    refine RL.nil _ _ _ _ ?_
    refine hK5 _ _ _ ?_
    refine SW.block ?_
    refine SW.loopM (fun frB mm fr ds HH => ∃ (k : Nat) (D : List Chunk) (a : Option Addr) (c : Nat) (ws : List Pd), mm = ln - k ∧ (k ≤ ln ∧ mg ws = (mg l).take k ∧ (∀ y ∈ ws, PdOk w0 D y)) ∧ FrIs [2, 4, 12, 13, 14, 15, 16, 17, 18, 19, 20, 21, 22, 23, 24, 25] frB fr [(2, .slice a k c), (12, .int .i64 k)] ∧ ds = [] ∧ HH = (.row a k c 35 2 (List.flatMap PdC ws) :: (D ++ H))) (n := ln - 0) ?_ ?_
    ·exact ⟨0, [], none, 0, [], rfl, ⟨Nat.zero_le _, rfl, fun _ h => by cases h⟩, (.cons rfl (.consI rfl (by first | omega | rfl) (.nil (by repeat first | with_reducible exact Mx.refl | with_reducible exact Mx.mix | refine Mx.put rfl ?_ | refine Mx.upd rfl ?_ | refine Mx.updl rfl ?_ | refine Mx.fin rfl ?_ | refine Mx.inner rfl ?_ | refine Mx.none ?_ | exact Mx.refl | exact Mx.mix)))), rfl, rfl⟩
    ·rintro mm fr ds HH ⟨k, D, a, c, ws, rfl, ⟨hk, hws, hwo⟩, hFr, rfl, eHH⟩
     obtain rfl := eHH.symm
     obtain ⟨frU, rfl⟩ := hFr.eq
     clear hFr
     have hx := pd_mem hok k
     refine SW.seq_k fun K6 hK6 => ?_
     refine SW.region _ _ _ _ ?_
     refine RL.p T ?_
     refine RL.nil _ _ _ _ ?_
     refine hK6 _ _ _ ?_
     refine SW.seq_k fun K7 hK7 => ?_
     refine SW.cs (fun hc1 => ?_) (fun hc1 => ?_)
     ·skip
      first
       | (exfalso; first | omega | contradiction | (clear hK7 K7; clear hK6 K6; clear hK5 K5; clear hK4 K4; clear hK2 K2; clear hK1 K1; clear hK0 K0; simp at *; done))
       | (
        refine SW.skip ?_
        refine hK7 _ _ _ ?_
        refine SW.seq_k fun K8 hK8 => ?_
        refine SW.block ?_
        refine SW.seq_k fun K9 hK9 => ?_
        refine SW.region _ _ _ _ ?_
        refine RL.ix T ?_ (hR := fun hs => (by first | exact hB.cons.app.cons | (repeat first | exact hB | apply Rd.cons | apply Rd.app)))
        refine RL.leN T ?_ (hR := fun hs => (by first | exact hB.cons.app.cons | (repeat first | exact hB | apply Rd.cons | apply Rd.app))) (hvs := (by exact (rfl : _ = [_, _])))
        refine RL.s ?_
        refine NV.alloc T rfl rfl rfl (by exact (rfl : _ = [_, _])) ?_
        intro b4_0
        refine RL.s ?_
        refine NV.sN T rfl rfl rfl (by exact (rfl : _ = [_, _])) (by exact (rfl : _ = [_, _])) ?_
        refine RL.nil _ _ _ _ ?_
        refine hK9 _ _ _ ?_
        refine SW.draw [(16, 0), (17, 1), (18, 2), (19, 3), (20, 4), (21, 5), (22, 6), (23, 7), (24, 8), (2, 9)] [[], [], [1], [], [3], [4, 3], [2, 1, 5, 4, 3], [6, 2, 1, 5, 4, 3], [0, 7, 6, 2, 1, 5, 4, 3], [8, 0, 7, 6, 2, 1, 5, 4, 3]] mixed (by kernel_rfl) (by kernel_rfl) ?_
        refine RD.p T ?_
        refine RD.p T ?_
        refine RD.q rfl rfl (Gd.none rfl) (QV.v1 T) ?_
        refine RD.p T ?_
        refine RD.q rfl rfl (Gd.none rfl) (QV.v1 T) ?_
        refine RD.nv rfl rfl rfl (Gd.none rfl) ?_
        refine NV.call rfl rfl rfl fun21 rfl rfl (clone (l.getD k default).a (l.getD k default).n (l.getD k default).c (l.getD k default).data (by repeat first | exact hx.rd | apply Rd.cons | apply Rd.app) hx.len hx.max) ?_
        rintro _ _ ⟨aC, cC, rfl, e⟩; obtain rfl := e.symm
        refine ⟨(Stab.cons rfl (Gd.none rfl) (QV.v1 T) (Stab.cons rfl (Gd.none rfl) (pev_sound T rfl) (Stab.cons rfl (Gd.none rfl) (pev_sound T rfl) Stab.nil))), ?_⟩
        refine RD.q rfl rfl (Gd.none rfl) (by first | exact QV.buildc T rfl (rfl : _ = some [_, _]) | exact pev_sound T (rfl : _ = some (Value.agg #[_, _]))) ?_
        refine RD.nv rfl rfl rfl (Gd.none rfl) ?_
        refine NV.build1 T rfl (by conv => lhs; whnf) rfl rfl (by conv => lhs; whnf) (by exact (rfl : _ = some [_, _])) ?_
        intro b23_1
        refine ⟨(Stab.cons rfl (Gd.none rfl) (pev_sound T rfl) Stab.nil), ?_⟩
        refine RD.nv rfl rfl rfl (Gd.none rfl) ?_
        refine NV.apR (enc := PdC) T _ (ys := [(⟨(l.getD k default).id, (l.getD k default).data, aC, (l.getD k default).n, cC⟩ : Pd)]) (fun a4 c4 => ?_)
        refine ⟨Stab.nil, ?_⟩
        refine RD.p T ?_
        refine RD.k rfl rfl ?_
        refine hK8 _ _ _ ?_
        refine SW.wk (.row a4 (k + 1) c4 35 2 (List.flatMap PdC (ws ++ [(⟨(l.getD k default).id, (l.getD k default).data, aC, (l.getD k default).n, cC⟩ : Pd)])) :: ((.row aC (l.getD k default).n cC 5 1 (List.map (Value.int .u8) ((l.getD k default).data)) :: D) ++ H)) ?_
        refine SW.sat (fun hs => ?_)
        refine SW.region _ _ _ _ ?_
        first | refine RL.ar ?_ | refine RL.p T ?_
        refine RL.p T ?_
        refine RL.nil _ _ _ _ ?_
        exact ⟨ln - (k + 1), (by omega), k + 1, .row aC (l.getD k default).n cC 5 1 (List.map (Value.int .u8) ((l.getD k default).data)) :: D, a4, c4, ws ++ [(⟨(l.getD k default).id, (l.getD k default).data, aC, (l.getD k default).n, cC⟩ : Pd)], (by rfl), ⟨by omega, by rw [mg_app, hws, mg_take_succ (by omega)]; rfl, fun y hy => (List.mem_append.1 hy).elim (fun h => (hwo y h).cons) (fun h => by rw [List.mem_singleton.1 h]; exact ⟨hx.id, hx.len, hx.max, hx.byte, Rd.rowh (satT (H0 := .row aC (l.getD k default).n cC 5 1 (List.map (Value.int .u8) ((l.getD k default).data)) :: D) hs) (At.head _ _)⟩)⟩, (.cons rfl (.consI rfl (by first | omega | rfl) (.nil (by repeat first | with_reducible exact Mx.refl | with_reducible exact Mx.mix | refine Mx.put rfl ?_ | refine Mx.upd rfl ?_ | refine Mx.updl rfl ?_ | refine Mx.fin rfl ?_ | refine Mx.inner rfl ?_ | refine Mx.none ?_ | exact Mx.refl | exact Mx.mix)))), rfl, rfl⟩
        )
     ·skip
      first
       | (exfalso; first | omega | contradiction | (clear hK7 K7; clear hK6 K6; clear hK5 K5; clear hK4 K4; clear hK2 K2; clear hK1 K1; clear hK0 K0; simp at *; done))
       | (
        refine SW.exit ?_
        refine hK4 _ _ _ ?_
        refine SW.seq_k fun K10 hK10 => ?_
        refine SW.region _ _ _ _ ?_
        refine RL.p T ?_
        refine RL.p T ?_
        refine RL.nil _ _ _ _ ?_
        refine hK10 _ _ _ ?_
        refine SW.ret ?_
        refine retQ.rr ((.row a k c 35 2 (List.flatMap PdC ws) :: (D ++ H))) ?_
        clear hK10 K10 hK7 K7 hK6 K6 hK5 K5 hK4 K4 hK2 K2 hK1 K1 hK0 K0
        obtain rfl : k = ln := by omega
        exact ⟨D, a, c, ws, rfl, rfl, by rw [hws, List.take_of_length_le (by rw [mg_len]; omega)], hwo⟩
        )
    )
theorem pfrom {w0 : World} {H : List Chunk} (ps : List Pd) (sr : Option Addr) (nr cr : Nat) (hB : Rd w0 H sr nr cr 2 (ps.flatMap PdC)) (hnr : nr = ps.length) (hmr : nr ≤ 4398046511000) (hps : ∀ k, PdOk w0 H (ps.getD k default)) : SC Tryd.prog w0 15 #[.slice sr nr cr] H (fun v H' => ∃ a c, v = .slice a nr c ∧ H' = .row a nr c 32 2 (ps.flatMap PdC) :: H) := by
 refine SC.enter Tryd.func15 rfl (Nat.le_of_ble_eq_true rfl) ?_
 refine SW.seq_k fun K0 hK0 => ?_
 refine SW.region _ _ _ _ ?_
 refine RL.p T ?_
 refine RL.nil _ _ _ _ ?_
 refine hK0 _ _ _ ?_
 refine SW.seq_k fun K1 hK1 => ?_
 refine SW.region _ _ _ _ ?_
 refine RL.nilrow 32 2 ?_
 refine RL.p T ?_
 refine RL.nil _ _ _ _ ?_
 refine hK1 _ _ _ ?_
 refine SW.seq_k fun K2 hK2 => ?_
 refine SW.seq_k fun K3 hK3 => ?_
 refine SW.region _ _ _ _ ?_
 refine RL.p T ?_
 refine RL.p T ?_
 refine RL.p T ?_
 refine RL.nil _ _ _ _ ?_
 refine hK3 _ _ _ ?_
 refine SW.block ?_
 refine SW.loopM (fun frB mm fr ds HH => ∃ (k : Nat) (a : Option Addr) (c : Nat), mm = nr - k ∧ (k ≤ nr) ∧ FrIs [3, 5, 8, 9, 10, 11, 12, 13, 14, 15, 16] frB fr [(3, .slice a k c), (8, .int .i64 k)] ∧ ds = [] ∧ HH = (.row a k c 32 2 ((ps.take k).flatMap PdC) :: H)) (n := nr - 0) ?_ ?_
 ·exact ⟨0, none, 0, rfl, Nat.zero_le _, (.cons rfl (.consI rfl (by first | omega | rfl) (.nil (by repeat first | with_reducible exact Mx.refl | with_reducible exact Mx.mix | refine Mx.put rfl ?_ | refine Mx.upd rfl ?_ | refine Mx.updl rfl ?_ | refine Mx.fin rfl ?_ | refine Mx.inner rfl ?_ | refine Mx.none ?_ | exact Mx.refl | exact Mx.mix)))), rfl, rfl⟩
 ·rintro mm fr ds HH ⟨k, a, c, rfl, hk, hFr, rfl, eHH⟩
  obtain rfl := eHH.symm
  obtain ⟨frU, rfl⟩ := hFr.eq
  clear hFr
  refine SW.seq_k fun K4 hK4 => ?_
  refine SW.region _ _ _ _ ?_
  refine RL.p T ?_
  refine RL.nil _ _ _ _ ?_
  refine hK4 _ _ _ ?_
  refine SW.seq_k fun K5 hK5 => ?_
  refine SW.cs (fun hc0 => ?_) (fun hc0 => ?_)
  ·skip
   refine SW.skip ?_
   refine hK5 _ _ _ ?_
   refine SW.seq_k fun K6 hK6 => ?_
   refine SW.block ?_
   refine SW.seq_k fun K7 hK7 => ?_
   refine SW.region _ _ _ _ ?_
   refine RL.ix T ?_ (hR := fun hs => hB.cons)
   refine RL.leN T ?_ (hR := fun hs => hB.cons) (hvs := (by exact (rfl : _ = [_, _])))
   refine RL.s ?_
   refine NV.alloc T rfl rfl rfl (by exact (rfl : _ = [_, _])) ?_
   intro b5_0
   refine RL.s ?_
   refine NV.sN T rfl rfl rfl (by exact (rfl : _ = [_, _])) (by exact (rfl : _ = [_, _])) ?_
   refine RL.nil _ _ _ _ ?_
   refine hK7 _ _ _ ?_
   refine SW.region _ _ _ _ ?_
   refine RL.p T ?_
   refine RL.q (QV.vN T rfl rfl rfl rfl rfl (by exact (rfl : _ = [_, _]))) ?_
   refine RL.bs T rfl rfl rfl (by exact (rfl : _ = some [_, _])) (fun b14_1 => ?_)
   refine RL.apS T ([(ps.getD k default)]) (fun a0_ c0_ => ?_)
   refine RL.p T ?_
   refine RL.drop ?_
   refine RL.nil _ _ _ _ ?_
   refine hK6 _ _ _ ?_
   refine SW.region _ _ _ _ ?_
   first | refine RL.ar ?_ | refine RL.p T ?_
   refine RL.p T ?_
   refine RL.nil _ _ _ _ ?_
   exact ⟨nr - (k + 1), (by omega), k + 1, a0_, c0_, (by rfl), by omega, (.cons rfl (.consI rfl (by first | omega | rfl) (.nil (by repeat first | with_reducible exact Mx.refl | with_reducible exact Mx.mix | refine Mx.put rfl ?_ | refine Mx.upd rfl ?_ | refine Mx.updl rfl ?_ | refine Mx.fin rfl ?_ | refine Mx.inner rfl ?_ | refine Mx.none ?_ | exact Mx.refl | exact Mx.mix)))), rfl, (by rw [pd_snoc (by omega)]; rfl)⟩
  ·skip
   refine SW.exit ?_
   refine hK2 _ _ _ ?_
   refine SW.seq_k fun K8 hK8 => ?_
   refine SW.region _ _ _ _ ?_
   refine RL.p T ?_
   refine RL.p T ?_
   refine RL.nil _ _ _ _ ?_
   refine hK8 _ _ _ ?_
   refine SW.ret ?_
   obtain rfl : k = nr := by omega
   rw [List.take_of_length_le (by omega)]
   refine retQ.rr ((.row a k c 32 2 (ps.flatMap PdC) :: H)) ?_
   clear hK8 K8 hK5 K5 hK4 K4 hK3 K3 hK2 K2 hK1 K1 hK0 K0
   exact ⟨a, c, rfl, rfl⟩
theorem sameP {w0 : World} {H : List Chunk} (ps : List Pd) (sa : Option Addr) (n c : Nat) (hRa : Rd w0 H sa n c 2 (List.flatMap PdC ps)) (hna : n = ps.length) (hka : ∀ q ∈ ps, PdOk w0 H q) (qs : List Pd) (sb : Option Addr) (m d : Nat) (hRb : Rd w0 H sb m d 2 (List.flatMap PdC qs)) (hnb : m = qs.length) (hkb : ∀ q ∈ qs, PdOk w0 H q) (hmx : n ≤ 4398046511000) : SC Tryd.prog w0 14 #[.slice sa n c, .slice sb m d] H (fun v H' => v = .bool (decide (mg ps = mg qs)) ∧ H' = H) := by
 refine SC.enter Tryd.func14 rfl (Nat.le_of_ble_eq_true rfl) ?_
 refine SW.seq_k fun K0 hK0 => ?_
 refine SW.region _ _ _ _ ?_
 refine RL.p T ?_
 refine RL.nil _ _ _ _ ?_
 refine hK0 _ _ _ ?_
 refine SW.seq_k fun K1 hK1 => ?_
 refine SW.seq_k fun K2 hK2 => ?_
 refine SW.region _ _ _ _ ?_
 refine RL.p T ?_
 refine RL.p T ?_
 refine RL.p T ?_
 refine RL.p T ?_
 refine RL.p T ?_
 refine RL.nil _ _ _ _ ?_
 refine hK2 _ _ _ ?_
 refine SW.cs (fun hc0 => ?_) (fun hc0 => ?_)
 ·skip
  first
   | (exfalso; first | omega | contradiction | (clear hK2 K2; clear hK1 K1; clear hK0 K0; simp at *; done))
   | (
    refine SW.seq_k fun K3 hK3 => ?_
    refine SW.region _ _ _ _ ?_
    refine RL.p T ?_
    refine RL.nil _ _ _ _ ?_
    refine hK3 _ _ _ ?_
    refine SW.ret ?_
    refine retQ.rr (H) ?_
    clear hK3 K3 hK2 K2 hK1 K1 hK0 K0
    refine ⟨boolE ?_, rfl⟩; first | (rw [mg_len_ne (by omega)]; done) | (rw [mg_ne (k := k) (by omega) (by omega) (fun hh => hc2.elim (fun g => g hh.1) (fun g => g hh.2))]; done) | (rw [mg_end (k := k) (by omega) (by omega) hb]; done)
    )
 ·skip
  first
   | (exfalso; first | omega | contradiction | (clear hK2 K2; clear hK1 K1; clear hK0 K0; simp at *; done))
   | (
    refine SW.skip ?_
    refine hK1 _ _ _ ?_
    refine SW.seq_k fun K4 hK4 => ?_
    refine SW.seq_k fun K5 hK5 => ?_
    refine SW.region _ _ _ _ ?_
    refine RL.p T ?_
    refine RL.p T ?_
    refine RL.p T ?_
    refine RL.nil _ _ _ _ ?_
    refine hK5 _ _ _ ?_
    refine SW.block ?_
    refine SW.loopM (fun frB mm fr ds HH => ∃ (k : Nat) , mm = n - k ∧ (k ≤ n ∧ (mg (ps.take k) = mg (qs.take k))) ∧ FrIs [4, 5, 13, 14, 15, 16, 17, 18, 19, 20, 21, 22, 23, 24, 25, 26, 27, 28, 29, 30, 31, 32, 33, 34, 35, 36, 37, 38, 39, 40, 41] frB fr [(13, .int .i64 k)] ∧ ds = [] ∧ HH = H) (n := n - 0) ?_ ?_
    ·exact ⟨0, rfl, ⟨Nat.zero_le _, rfl⟩, (.cons rfl (.nil (by repeat first | with_reducible exact Mx.refl | with_reducible exact Mx.mix | refine Mx.put rfl ?_ | refine Mx.upd rfl ?_ | refine Mx.updl rfl ?_ | refine Mx.fin rfl ?_ | refine Mx.inner rfl ?_ | refine Mx.none ?_ | exact Mx.refl | exact Mx.mix))), rfl, rfl⟩
    ·rintro mm fr ds HH ⟨k, rfl, ⟨hk, hb⟩, hFr, rfl, eHH⟩
     obtain rfl := eHH.symm
     obtain ⟨frU, rfl⟩ := hFr.eq
     clear hFr
     have hx := pd_mem hka k
     have hy := pd_mem hkb k
     refine SW.seq_k fun K6 hK6 => ?_
     refine SW.region _ _ _ _ ?_
     refine RL.p T ?_
     refine RL.nil _ _ _ _ ?_
     refine hK6 _ _ _ ?_
     refine SW.seq_k fun K7 hK7 => ?_
     refine SW.cs (fun hc1 => ?_) (fun hc1 => ?_)
     ·skip
      first
       | (exfalso; first | omega | contradiction | (clear hK7 K7; clear hK6 K6; clear hK5 K5; clear hK4 K4; clear hK2 K2; clear hK1 K1; clear hK0 K0; simp at *; done))
       | (
        refine SW.skip ?_
        refine hK7 _ _ _ ?_
        refine SW.seq_k fun K8 hK8 => ?_
        refine SW.block ?_
        refine SW.seq_k fun K9 hK9 => ?_
        refine SW.region _ _ _ _ ?_
        refine RL.p T ?_
        refine RL.p T ?_
        refine RL.nil _ _ _ _ ?_
        refine hK9 _ _ _ ?_
        refine SW.seq_k fun K10 hK10 => ?_
        refine SW.drawQ [(16, 0), (17, 1), (18, 2), (19, 3), (20, 4), (21, 5), (22, 6), (23, 7), (24, 8), (25, 9), (26, 10), (27, 11), (28, 12), (29, 13), (30, 14), (31, 15), (32, 16), (33, 17), (34, 18), (35, 19), (36, 20), (37, 21), (38, 22), (39, 23), (40, 24)] [[], [], [0, 1], [2, 0, 1], [3, 2, 0, 1], [], [], [5, 6], [7, 5, 6], [8, 7, 5, 6], [4, 3, 2, 0, 1, 9, 8, 7, 5, 6], [10, 4, 3, 2, 0, 1, 9, 8, 7, 5, 6], [11, 10, 4, 3, 2, 0, 1, 9, 8, 7, 5, 6], [11, 10, 4, 3, 2, 0, 1, 9, 8, 7, 5, 6], [12, 11, 10, 4, 3, 2, 0, 1, 9, 8, 7, 5, 6, 13], [14, 12, 11, 10, 4, 3, 2, 0, 1, 9, 8, 7, 5, 6, 13], [15, 14, 12, 11, 10, 4, 3, 2, 0, 1, 9, 8, 7, 5, 6, 13], [11, 10, 4, 3, 2, 0, 1, 9, 8, 7, 5, 6], [11, 10, 4, 3, 2, 0, 1, 9, 8, 7, 5, 6], [17, 11, 10, 4, 3, 2, 0, 1, 9, 8, 7, 5, 6, 18], [19, 17, 11, 10, 4, 3, 2, 0, 1, 9, 8, 7, 5, 6, 18], [20, 19, 17, 11, 10, 4, 3, 2, 0, 1, 9, 8, 7, 5, 6, 18], [16, 15, 14, 12, 11, 10, 4, 3, 2, 0, 1, 9, 8, 7, 5, 6, 13, 21, 20, 19, 17, 18], [22, 16, 15, 14, 12, 11, 10, 4, 3, 2, 0, 1, 9, 8, 7, 5, 6, 13, 21, 20, 19, 17, 18], [11, 10, 4, 3, 2, 0, 1, 9, 8, 7, 5, 6, 23, 22, 16, 15, 14, 12, 13, 21, 20, 19, 17, 18]] mixed (by kernel_rfl) (by kernel_rfl) ?_
        refine QL.p T ?_
        refine QL.p T ?_
        refine QL.ix T ?_ (hR := fun hs => (by first | exact hRa | exact hRb))
        refine QL.p T ?_
        refine QL.leF T ?_ (hR := fun hs => (by first | exact hRa | exact hRb))
        refine QL.p T ?_
        refine QL.p T ?_
        refine QL.ix T ?_ (hR := fun hs => (by first | exact hRa | exact hRb))
        refine QL.p T ?_
        refine QL.leF T ?_ (hR := fun hs => (by first | exact hRa | exact hRb))
        refine QL.p T ?_
        refine QL.p T ?_
        refine QL.join (fr1 := ?_) 12 27 false [28, 29, 30, 31, 32, 33, 34, 35, 36, 37, 38, 39] (fun hs0 hj => ?_) ?_ ?_
        rotate_left
        ·have hs0j := hs0
         try simp only [decide_eq_true_eq, Bool.not_eq_true', decide_eq_false_iff_not, Bool.not_eq_false', Int.not_lt, Int.not_le, Int.toNat_natCast, Bool.and_eq_true, Bool.or_eq_true, Bool.and_eq_false_iff, Bool.or_eq_false_iff] at hs0
         refine QL.p T ?_
         refine QL.p T ?_
         refine QL.ix T ?_ (hR := fun hs => (by first | exact hRa | exact hRb))
         refine QL.p T ?_
         refine QL.leF T ?_ (hR := fun hs => (by first | exact hRa | exact hRb))
         refine QL.p T ?_
         refine QL.p T ?_
         refine QL.ix T ?_ (hR := fun hs => (by first | exact hRa | exact hRb))
         refine QL.p T ?_
         refine QL.leF T ?_ (hR := fun hs => (by first | exact hRa | exact hRb))
         refine QL.c fun24 (fun hs => same (ps.getD k default).a (qs.getD k default).a (ps.getD k default).n (ps.getD k default).c (qs.getD k default).n (qs.getD k default).c (ps.getD k default).data (qs.getD k default).data hx.rd hy.rd hx.len hy.len hx.max hy.max) ?_
         refine QL.p T ?_
         exact hj
        ·repeat first | with_reducible exact Mx.refl | with_reducible exact Mx.mix | refine Mx.put rfl ?_ | refine Mx.upd rfl ?_ | refine Mx.updl rfl ?_ | refine Mx.fin rfl ?_ | refine Mx.inner rfl ?_ | refine Mx.none ?_ | exact Mx.refl | exact Mx.mix
        refine QL.or ?_
        refine QL.nil ?_
        refine hK10 _ _ _ ?_
        refine SW.cs (fun hc2 => ?_) (fun hc2 => ?_)
        ·skip
         first
          | (exfalso; first | omega | contradiction | (clear hK10 K10; clear hK9 K9; clear hK8 K8; clear hK7 K7; clear hK6 K6; clear hK5 K5; clear hK4 K4; clear hK2 K2; clear hK1 K1; clear hK0 K0; simp at *; done))
          | (
           refine SW.seq_k fun K11 hK11 => ?_
           refine SW.region _ _ _ _ ?_
           refine RL.p T ?_
           refine RL.nil _ _ _ _ ?_
           refine hK11 _ _ _ ?_
           refine SW.ret ?_
           refine retQ.rr (H) ?_
           clear hK11 K11 hK10 K10 hK9 K9 hK8 K8 hK7 K7 hK6 K6 hK5 K5 hK4 K4 hK2 K2 hK1 K1 hK0 K0
           refine ⟨boolE ?_, rfl⟩; first | (rw [mg_len_ne (by omega)]; done) | (rw [mg_ne (k := k) (by omega) (by omega) (fun hh => hc2.elim (fun g => g hh.1) (fun g => g hh.2))]; done) | (rw [mg_end (k := k) (by omega) (by omega) hb]; done)
           )
        ·skip
         first
          | (exfalso; first | omega | contradiction | (clear hK10 K10; clear hK9 K9; clear hK8 K8; clear hK7 K7; clear hK6 K6; clear hK5 K5; clear hK4 K4; clear hK2 K2; clear hK1 K1; clear hK0 K0; simp at *; done))
          | (
           refine SW.skip ?_
           refine hK8 _ _ _ ?_
           refine SW.region _ _ _ _ ?_
           first | refine RL.ar ?_ | refine RL.p T ?_
           refine RL.p T ?_
           refine RL.nil _ _ _ _ ?_
           exact ⟨n - (k + 1), (by omega), k + 1, (by rfl), ⟨by omega, mg_step (by omega) (by omega) hb (by simp_all)⟩, (.cons rfl (.nil (by repeat first | with_reducible exact Mx.refl | with_reducible exact Mx.mix | refine Mx.put rfl ?_ | refine Mx.upd rfl ?_ | refine Mx.updl rfl ?_ | refine Mx.fin rfl ?_ | refine Mx.inner rfl ?_ | refine Mx.none ?_ | exact Mx.refl | exact Mx.mix))), rfl, rfl⟩
           )
        )
     ·skip
      first
       | (exfalso; first | omega | contradiction | (clear hK7 K7; clear hK6 K6; clear hK5 K5; clear hK4 K4; clear hK2 K2; clear hK1 K1; clear hK0 K0; simp at *; done))
       | (
        refine SW.exit ?_
        refine hK4 _ _ _ ?_
        refine SW.seq_k fun K12 hK12 => ?_
        refine SW.region _ _ _ _ ?_
        refine RL.p T ?_
        refine RL.nil _ _ _ _ ?_
        refine hK12 _ _ _ ?_
        refine SW.ret ?_
        refine retQ.rr (H) ?_
        clear hK12 K12 hK7 K7 hK6 K6 hK5 K5 hK4 K4 hK2 K2 hK1 K1 hK0 K0
        refine ⟨boolE ?_, rfl⟩; first | (rw [mg_len_ne (by omega)]; done) | (rw [mg_ne (k := k) (by omega) (by omega) (fun hh => hc2.elim (fun g => g hh.1) (fun g => g hh.2))]; done) | (rw [mg_end (k := k) (by omega) (by omega) hb]; done)
        )
    )
end Go.Proofs.YtlgdfoniijmlbaaDoor.M
