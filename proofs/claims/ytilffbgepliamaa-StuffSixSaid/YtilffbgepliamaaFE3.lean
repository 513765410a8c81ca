import Derived.Test.YtilffbgepliamaaProg
import Derived.Test.YtilffbgepliamaaFD3
set_option linter.unusedVariables false
set_option linter.unusedSimpArgs false
namespace Go.Proofs.Ytilffbgepliamaa.M
open Go Go.Sep Go.Proofs
set_option maxRecDepth 10000
set_option maxHeartbeats 2000000
theorem putC {w0 : World} {H : List Chunk} (sa : Option Addr) (c : Nat) (hR : Rd w0 H sa 6 c 1 (([1, 1, 1, 1, 1, 1] : List Int).map (.int .u8))) : SC Try.prog w0 11 #[.slice sa 6 c] H (fun v H' => ∃ sr cr, v = .tuple #[.slice sr 7 cr, .int .i64 0] ∧ H' = .row sr 7 cr 5 1 (([1, 1, 1, 1, 1, 0, 1] : List Int).map (.int .u8)) :: H) :=
  (sput sa 6 c [1, 1, 1, 1, 1, 1] hR rfl (by decide) (by unfold Byte; simp)).mono (fun v H' h => by rw [putA] at h; exact h)
theorem alive {w0 : World} {H : List Chunk}  : SC Try.prog w0 9 #[] H (fun v H' => v = .bool true ∧ H' = H) := by
 refine SC.enter Try.func9 rfl (Nat.le_of_ble_eq_true rfl) ?_
 refine SW.seq_k ?_
 intro K0 hK0
 refine SW.region _ _ _ _ ?_
 refine RL.st ?_
 refine NV.p T ?_
 refine RL.nil _ _ _ _ ?_
 refine hK0 _ _ _ ?_
 refine SW.seq_k ?_
 intro K1 hK1
 refine SW.region _ _ _ _ ?_
 refine RL.st ?_
 refine NV.buildSlice T rfl rfl rfl (Nat.le_of_ble_eq_true rfl) (by exact (rfl : _ = some [_, _, _, _, _, _])) ?_
 intro b6_0
 refine RL.st ?_
 refine NV.sat (fun hs => ?_) (fun c hc => by cases hc)
 refine NV.call rfl rfl rfl fun11 rfl rfl (putC _ 6 (Rd.row (At.head _ _) hs)) ?_
 rintro _ _ ⟨s1, c1, rfl, e⟩; obtain rfl := e.symm
 refine RL.st ?_
 refine NV.p T ?_
 refine RL.st ?_
 refine NV.p T ?_
 refine RL.st ?_
 refine NV.p T ?_
 refine RL.st ?_
 refine NV.p T ?_
 refine RL.st ?_
 refine NV.p T ?_
 refine RL.nil _ _ _ _ ?_
 refine hK1 _ _ _ ?_
 refine SW.seq_k ?_
 intro K2 hK2
 refine SW.region _ _ _ _ ?_
 refine RL.st ?_
 refine NV.buildSlice T rfl rfl rfl (Nat.le_of_ble_eq_true rfl) (by exact (rfl : _ = some [_, _, _, _, _, _])) ?_
 intro b11_1
 refine RL.st ?_
 refine NV.sat (fun hs => ?_) (fun c hc => by cases hc)
 refine NV.call rfl rfl rfl fun13 rfl rfl ((sGet _ 6 6 [1, 1, 1, 1, 1, 1] (Rd.row (At.head _ _) hs) rfl (by decide)).mono (fun v H' h => by rw [getA] at h; exact h)) ?_
 rintro _ _ ⟨_, rfl, a2, n2, c2, rfl, hn2, hR2, G2, e⟩; obtain rfl := e.symm
 refine RL.st ?_
 refine NV.p T ?_
 refine RL.st ?_
 refine NV.p T ?_
 refine RL.st ?_
 refine NV.p T ?_
 refine RL.st ?_
 refine NV.p T ?_
 refine RL.st ?_
 refine NV.p T ?_
 refine RL.nil _ _ _ _ ?_
 refine hK2 _ _ _ ?_
 refine SW.seq_k ?_
 intro K3 hK3
 refine SW.region _ _ _ _ ?_
 refine RL.st ?_
 refine NV.p T ?_
 refine RL.st ?_
 refine NV.p T ?_
 refine RL.st ?_
 refine NV.p T ?_
 refine RL.st ?_
 refine NV.p T ?_
 refine RL.split 18 rfl (fun hs0 => ?_) (fun hs0 => ?_)
 ·try simp only [decide_eq_true_eq, decide_eq_false_iff_not, Bool.not_eq_true', Bool.not_eq_false', Int.not_lt, Int.not_le, Int.toNat_natCast] at hs0
  first
   | (exfalso; clear hK3 K3; clear hK2 K2; clear hK1 K1; clear hK0 K0; first | omega | contradiction)
   | (
    refine RL.st ?_
    refine NV.p T ?_
    refine RL.st ?_
    refine NV.sat (fun hs => ?_) (fun c hc => by cases hc)
    first
      | refine NV.index_array T rfl rfl rfl rfl rfl (by omega) (by omega) ?_
      | refine NV.index_slice T rfl rfl rfl rfl rfl (by first | exact Rd.row (At.head _ _) hs | exact Rd.row (by repeat first | exact At.head _ _ | apply At.tail | apply At.app) hs) (by omega) (by omega) ?_
    refine RL.st ?_
    refine NV.sat (fun hs => ?_) (fun c hc => by cases hc)
    refine NV.load_elem T rfl rfl rfl rfl (by first | exact Rd.row (At.head _ _) hs | exact Rd.row (by repeat first | exact At.head _ _ | apply At.tail | apply At.app) hs) (by exact rfl) ?_
    refine RL.st ?_
    refine NV.p T ?_
    refine RL.st ?_
    refine NV.p T ?_
    refine RL.st ?_
    refine NV.p T ?_
    refine RL.split 24 rfl (fun hs1 => ?_) (fun hs1 => ?_)
    ·try simp only [decide_eq_true_eq, decide_eq_false_iff_not, Bool.not_eq_true', Bool.not_eq_false', Int.not_lt, Int.not_le, Int.toNat_natCast] at hs1
     first
      | (exfalso; clear hK3 K3; clear hK2 K2; clear hK1 K1; clear hK0 K0; first | omega | contradiction)
      | (
       refine RL.st ?_
       refine NV.p T ?_
       refine RL.st ?_
       refine NV.sat (fun hs => ?_) (fun c hc => by cases hc)
       first
         | refine NV.index_array T rfl rfl rfl rfl rfl (by omega) (by omega) ?_
         | refine NV.index_slice T rfl rfl rfl rfl rfl (by first | exact Rd.row (At.head _ _) hs | exact Rd.row (by repeat first | exact At.head _ _ | apply At.tail | apply At.app) hs) (by omega) (by omega) ?_
       refine RL.st ?_
       refine NV.sat (fun hs => ?_) (fun c hc => by cases hc)
       refine NV.load_elem T rfl rfl rfl rfl (by first | exact Rd.row (At.head _ _) hs | exact Rd.row (by repeat first | exact At.head _ _ | apply At.tail | apply At.app) hs) (by exact rfl) ?_
       refine RL.st ?_
       refine NV.p T ?_
       refine RL.st ?_
       refine NV.p T ?_
       refine RL.st ?_
       refine NV.p T ?_
       refine RL.split 30 rfl (fun hs2 => ?_) (fun hs2 => ?_)
       ·try simp only [decide_eq_true_eq, decide_eq_false_iff_not, Bool.not_eq_true', Bool.not_eq_false', Int.not_lt, Int.not_le, Int.toNat_natCast] at hs2
        first
         | (exfalso; clear hK3 K3; clear hK2 K2; clear hK1 K1; clear hK0 K0; first | omega | contradiction)
         | (
          refine RL.st ?_
          refine NV.p T ?_
          refine RL.st ?_
          refine NV.p T ?_
          refine RL.st ?_
          refine NV.p T ?_
          refine RL.st ?_
          refine NV.p T ?_
          refine RL.split 34 rfl (fun hs3 => ?_) (fun hs3 => ?_)
          ·try simp only [decide_eq_true_eq, decide_eq_false_iff_not, Bool.not_eq_true', Bool.not_eq_false', Int.not_lt, Int.not_le, Int.toNat_natCast] at hs3
           first
            | (exfalso; clear hK3 K3; clear hK2 K2; clear hK1 K1; clear hK0 K0; first | omega | contradiction)
            | (
             refine RL.st ?_
             refine NV.p T ?_
             refine RL.st ?_
             refine NV.p T ?_
             refine RL.st ?_
             refine NV.p T ?_
             refine RL.st ?_
             refine NV.p T ?_
             refine RL.nil _ _ _ _ ?_
             refine hK3 _ _ _ ?_
             refine SW.ret ?_
             refine retQ.ret (H' := H) (RVs.tmp (by conv => lhs; whnf) RVs.nil) (fun w hw => Sat.sub (by repeat first | exact List.Sublist.refl _ | apply List.Sublist.cons_cons | apply List.Sublist.cons | exact List.sublist_append_right _ _ | refine List.Sublist.trans ?_ (List.sublist_append_right _ _)) hw) ?_
             clear hK3 K3 hK2 K2 hK1 K1 hK0 K0
             exact ⟨rfl, rfl⟩
             )
          ·try simp only [decide_eq_true_eq, decide_eq_false_iff_not, Bool.not_eq_true', Bool.not_eq_false', Int.not_lt, Int.not_le, Int.toNat_natCast] at hs3
           first
            | (exfalso; clear hK3 K3; clear hK2 K2; clear hK1 K1; clear hK0 K0; first | omega | contradiction)
            | (
             refine RL.guard_no rfl rfl rfl ?_
             refine RL.guard_no rfl rfl rfl ?_
             refine RL.st ?_
             refine NV.p T ?_
             refine RL.st ?_
             refine NV.p T ?_
             refine RL.nil _ _ _ _ ?_
             refine hK3 _ _ _ ?_
             refine SW.ret ?_
             refine retQ.ret (H' := H) (RVs.tmp (by conv => lhs; whnf) RVs.nil) (fun w hw => Sat.sub (by repeat first | exact List.Sublist.refl _ | apply List.Sublist.cons_cons | apply List.Sublist.cons | exact List.sublist_append_right _ _ | refine List.Sublist.trans ?_ (List.sublist_append_right _ _)) hw) ?_
             clear hK3 K3 hK2 K2 hK1 K1 hK0 K0
             exact ⟨rfl, rfl⟩
             )
          )
       ·try simp only [decide_eq_true_eq, decide_eq_false_iff_not, Bool.not_eq_true', Bool.not_eq_false', Int.not_lt, Int.not_le, Int.toNat_natCast] at hs2
        first
         | (exfalso; clear hK3 K3; clear hK2 K2; clear hK1 K1; clear hK0 K0; first | omega | contradiction)
         | (
          refine RL.guard_no rfl rfl rfl ?_
          refine RL.guard_no rfl rfl rfl ?_
          refine RL.st ?_
          refine NV.p T ?_
          refine RL.st ?_
          refine NV.p T ?_
          refine RL.guard_no rfl rfl rfl ?_
          refine RL.guard_no rfl rfl rfl ?_
          refine RL.st ?_
          refine NV.p T ?_
          refine RL.st ?_
          refine NV.p T ?_
          refine RL.nil _ _ _ _ ?_
          refine hK3 _ _ _ ?_
          refine SW.ret ?_
          refine retQ.ret (H' := H) (RVs.tmp (by conv => lhs; whnf) RVs.nil) (fun w hw => Sat.sub (by repeat first | exact List.Sublist.refl _ | apply List.Sublist.cons_cons | apply List.Sublist.cons | exact List.sublist_append_right _ _ | refine List.Sublist.trans ?_ (List.sublist_append_right _ _)) hw) ?_
          clear hK3 K3 hK2 K2 hK1 K1 hK0 K0
          exact ⟨rfl, rfl⟩
          )
       )
    ·try simp only [decide_eq_true_eq, decide_eq_false_iff_not, Bool.not_eq_true', Bool.not_eq_false', Int.not_lt, Int.not_le, Int.toNat_natCast] at hs1
     first
      | (exfalso; clear hK3 K3; clear hK2 K2; clear hK1 K1; clear hK0 K0; first | omega | contradiction)
      | (
       refine RL.guard_no rfl rfl rfl ?_
       refine RL.guard_no rfl rfl rfl ?_
       refine RL.guard_no rfl rfl rfl ?_
       refine RL.guard_no rfl rfl rfl ?_
       refine RL.st ?_
       refine NV.p T ?_
       refine RL.st ?_
       refine NV.p T ?_
       refine RL.guard_no rfl rfl rfl ?_
       refine RL.guard_no rfl rfl rfl ?_
       refine RL.st ?_
       refine NV.p T ?_
       refine RL.st ?_
       refine NV.p T ?_
       refine RL.guard_no rfl rfl rfl ?_
       refine RL.guard_no rfl rfl rfl ?_
       refine RL.st ?_
       refine NV.p T ?_
       refine RL.st ?_
       refine NV.p T ?_
       refine RL.nil _ _ _ _ ?_
       refine hK3 _ _ _ ?_
       refine SW.ret ?_
       refine retQ.ret (H' := H) (RVs.tmp (by conv => lhs; whnf) RVs.nil) (fun w hw => Sat.sub (by repeat first | exact List.Sublist.refl _ | apply List.Sublist.cons_cons | apply List.Sublist.cons | exact List.sublist_append_right _ _ | refine List.Sublist.trans ?_ (List.sublist_append_right _ _)) hw) ?_
       clear hK3 K3 hK2 K2 hK1 K1 hK0 K0
       exact ⟨rfl, rfl⟩
       )
    )
 ·try simp only [decide_eq_true_eq, decide_eq_false_iff_not, Bool.not_eq_true', Bool.not_eq_false', Int.not_lt, Int.not_le, Int.toNat_natCast] at hs0
  first
   | (exfalso; clear hK3 K3; clear hK2 K2; clear hK1 K1; clear hK0 K0; first | omega | contradiction)
   | (
    refine RL.guard_no rfl rfl rfl ?_
    refine RL.guard_no rfl rfl rfl ?_
    refine RL.guard_no rfl rfl rfl ?_
    refine RL.guard_no rfl rfl rfl ?_
    refine RL.st ?_
    refine NV.p T ?_
    refine RL.st ?_
    refine NV.p T ?_
    refine RL.guard_no rfl rfl rfl ?_
    refine RL.guard_no rfl rfl rfl ?_
    refine RL.guard_no rfl rfl rfl ?_
    refine RL.guard_no rfl rfl rfl ?_
    refine RL.st ?_
    refine NV.p T ?_
    refine RL.st ?_
    refine NV.p T ?_
    refine RL.guard_no rfl rfl rfl ?_
    refine RL.guard_no rfl rfl rfl ?_
    refine RL.st ?_
    refine NV.p T ?_
    refine RL.st ?_
    refine NV.p T ?_
    refine RL.guard_no rfl rfl rfl ?_
    refine RL.guard_no rfl rfl rfl ?_
    refine RL.st ?_
    refine NV.p T ?_
    refine RL.st ?_
    refine NV.p T ?_
    refine RL.nil _ _ _ _ ?_
    refine hK3 _ _ _ ?_
    refine SW.ret ?_
    refine retQ.ret (H' := H) (RVs.tmp (by conv => lhs; whnf) RVs.nil) (fun w hw => Sat.sub (by repeat first | exact List.Sublist.refl _ | apply List.Sublist.cons_cons | apply List.Sublist.cons | exact List.sublist_append_right _ _ | refine List.Sublist.trans ?_ (List.sublist_append_right _ _)) hw) ?_
    clear hK3 K3 hK2 K2 hK1 K1 hK0 K0
    exact ⟨rfl, rfl⟩
    )
theorem good {w0 : World} {H : List Chunk} (sa : Option Addr) (n c : Nat) : SC Try.prog w0 10 #[.slice sa n c] H (fun v H' => v = .bool (decide (n ≤ 3000) || decide (65536 < n)) ∧ H' = H) := by
 refine SC.enter Try.func10 rfl (Nat.le_of_ble_eq_true rfl) ?_
 refine SW.seq_k ?_
 intro K0 hK0
 refine SW.region _ _ _ _ ?_
 refine RL.st ?_
 refine NV.p T ?_
 refine RL.nil _ _ _ _ ?_
 refine hK0 _ _ _ ?_
 refine SW.seq_k ?_
 intro K1 hK1
 refine SW.region _ _ _ _ ?_
 refine RL.st ?_
 refine NV.p T ?_
 refine RL.st ?_
 refine NV.p T ?_
 refine RL.st ?_
 refine NV.p T ?_
 refine RL.st ?_
 refine NV.p T ?_
 refine RL.split 6 rfl (fun hs0 => ?_) (fun hs0 => ?_)
 ·try simp only [decide_eq_true_eq, decide_eq_false_iff_not, Bool.not_eq_true', Bool.not_eq_false', Int.not_lt, Int.not_le, Int.toNat_natCast] at hs0
  first
   | (exfalso; clear hK1 K1; clear hK0 K0; first | omega | contradiction)
   | (
    refine RL.guard_no rfl rfl rfl ?_
    refine RL.guard_no rfl rfl rfl ?_
    refine RL.guard_no rfl rfl rfl ?_
    refine RL.st ?_
    refine NV.p T ?_
    refine RL.st ?_
    refine NV.p T ?_
    refine RL.nil _ _ _ _ ?_
    refine hK1 _ _ _ ?_
    refine SW.ret ?_
    refine retQ.ret (H' := H) (RVs.tmp (by conv => lhs; whnf) RVs.nil) (fun w hw => Sat.sub (by repeat first | exact List.Sublist.refl _ | apply List.Sublist.cons_cons | apply List.Sublist.cons | exact List.sublist_append_right _ _ | refine List.Sublist.trans ?_ (List.sublist_append_right _ _)) hw) ?_
    clear hK1 K1 hK0 K0
    refine ⟨boolE ?_, rfl⟩; rw [Bool.eq_iff_iff]; simp only [Bool.or_eq_true, decide_eq_true_eq]; first | omega | (simp; omega)
    )
 ·try simp only [decide_eq_true_eq, decide_eq_false_iff_not, Bool.not_eq_true', Bool.not_eq_false', Int.not_lt, Int.not_le, Int.toNat_natCast] at hs0
  first
   | (exfalso; clear hK1 K1; clear hK0 K0; first | omega | contradiction)
   | (
    refine RL.st ?_
    refine NV.p T ?_
    refine RL.st ?_
    refine NV.p T ?_
    refine RL.st ?_
    refine NV.p T ?_
    refine RL.st ?_
    refine NV.p T ?_
    refine RL.st ?_
    refine NV.p T ?_
    refine RL.nil _ _ _ _ ?_
    refine hK1 _ _ _ ?_
    refine SW.ret ?_
    refine retQ.ret (H' := H) (RVs.tmp (by conv => lhs; whnf) RVs.nil) (fun w hw => Sat.sub (by repeat first | exact List.Sublist.refl _ | apply List.Sublist.cons_cons | apply List.Sublist.cons | exact List.sublist_append_right _ _ | refine List.Sublist.trans ?_ (List.sublist_append_right _ _)) hw) ?_
    clear hK1 K1 hK0 K0
    refine ⟨boolE ?_, rfl⟩; rw [Bool.eq_iff_iff]; simp only [Bool.or_eq_true, decide_eq_true_eq]; first | omega | (simp; omega)
    )
theorem puts_no {w0 : World} {H : List Chunk} (sa : Option Addr) (n c : Nat) (es : List Int) (hR : ∀ H, Rd w0 H sa n c 1 (es.map (.int .u8))) (hn : n = es.length) (hm : n ≤ 140737488351232) (hb : Byte es) (sar : Option Addr) (nr cr : Nat) (esr : List Int) (hRr : ∀ H, Rd w0 H sar nr cr 1 (esr.map (.int .u8))) (hnr : nr = esr.length) (hmr : nr ≤ 140737488351232) (hbr : Byte esr) (h : ¬ (n ≤ 3000 ∨ 65536 < n) ∨ ¬ (nr ≤ 3000 ∨ 65536 < nr)) : SC Try.prog w0 3 #[.slice sa n c, .slice sar nr cr] H (fun v H' => v = .bool true ∧ H' = H) := by
 refine SC.enter Try.func3 rfl (Nat.le_of_ble_eq_true rfl) ?_
 refine SW.seq_k ?_
 intro K0 hK0
 refine SW.region _ _ _ _ ?_
 refine RL.st ?_
 refine NV.p T ?_
 refine RL.nil _ _ _ _ ?_
 refine hK0 _ _ _ ?_
 refine SW.seq_k ?_
 intro K1 hK1
 refine SW.seq_k ?_
 intro K2 hK2
 refine SW.region _ _ _ _ ?_
 refine RL.st ?_
 refine NV.call rfl rfl rfl fun9 rfl rfl (alive) ?_
 rintro _ _ ⟨rfl, e⟩; obtain rfl := e.symm
 refine RL.st ?_
 refine NV.p T ?_
 refine RL.nil _ _ _ _ ?_
 refine hK2 _ _ _ ?_
 refine SW.cond rfl (fun hc0 => ?_) (fun hc0 => ?_)
 ·try simp only [decide_eq_true_eq, decide_eq_false_iff_not, Bool.not_eq_true', Bool.not_eq_false', Int.not_lt, Int.not_le, Int.toNat_natCast] at hc0
  first
   | (exfalso; clear hK2 K2; clear hK1 K1; clear hK0 K0; first | omega | contradiction | (simp at *; omega))
   | (
    refine SW.seq_k ?_
    intro K3 hK3
    refine SW.region _ _ _ _ ?_
    refine RL.st ?_
    refine NV.p T ?_
    refine RL.nil _ _ _ _ ?_
    refine hK3 _ _ _ ?_
    refine SW.ret ?_
    refine retQ.ret (H' := H) (RVs.tmp (by conv => lhs; whnf) RVs.nil) (fun w hw => Sat.sub (by repeat first | exact List.Sublist.refl _ | apply List.Sublist.cons_cons | apply List.Sublist.cons | exact List.sublist_append_right _ _ | refine List.Sublist.trans ?_ (List.sublist_append_right _ _)) hw) ?_
    clear hK3 K3 hK2 K2 hK1 K1 hK0 K0
    first | exact ⟨rfl, rfl⟩ | (refine ⟨boolE ?_, rfl⟩; simp; done) | (refine ⟨boolE ?_, rfl⟩; simp_all; done)
    )
 ·try simp only [decide_eq_true_eq, decide_eq_false_iff_not, Bool.not_eq_true', Bool.not_eq_false', Int.not_lt, Int.not_le, Int.toNat_natCast] at hc0
  first
   | (exfalso; clear hK2 K2; clear hK1 K1; clear hK0 K0; first | omega | contradiction | (simp at *; omega))
   | (
    refine SW.skip ?_
    refine hK1 _ _ _ ?_
    refine SW.seq_k ?_
    intro K4 hK4
    refine SW.seq_k ?_
    intro K5 hK5
    refine SW.region _ _ _ _ ?_
    refine RL.st ?_
    refine NV.p T ?_
    refine RL.st ?_
    refine NV.call rfl rfl rfl fun10 rfl rfl (good sa n c) ?_
    rintro _ _ ⟨rfl, e⟩; obtain rfl := e.symm
    refine RL.st ?_
    refine NV.p T ?_
    refine RL.st ?_
    refine NV.p T ?_
    refine RL.split 22 rfl (fun hs0 => ?_) (fun hs0 => ?_)
    ·try simp only [decide_eq_true_eq, decide_eq_false_iff_not, Bool.not_eq_true', Bool.not_eq_false', Int.not_lt, Int.not_le, Int.toNat_natCast] at hs0
     first
      | (exfalso; clear hK5 K5; clear hK4 K4; clear hK2 K2; clear hK1 K1; clear hK0 K0; first | omega | contradiction | (simp at *; omega))
      | (
       refine RL.guard_no rfl rfl rfl ?_
       refine RL.guard_no rfl rfl rfl ?_
       refine RL.guard_no rfl rfl rfl ?_
       refine RL.st ?_
       refine NV.p T ?_
       refine RL.nil _ _ _ _ ?_
       refine hK5 _ _ _ ?_
       refine SW.cond_t rfl ?_
       refine SW.seq_k ?_
       intro K6 hK6
       refine SW.region _ _ _ _ ?_
       refine RL.st ?_
       refine NV.p T ?_
       refine RL.nil _ _ _ _ ?_
       refine hK6 _ _ _ ?_
       refine SW.ret ?_
       refine retQ.ret (H' := H) (RVs.tmp (by conv => lhs; whnf) RVs.nil) (fun w hw => Sat.sub (by repeat first | exact List.Sublist.refl _ | apply List.Sublist.cons_cons | apply List.Sublist.cons | exact List.sublist_append_right _ _ | refine List.Sublist.trans ?_ (List.sublist_append_right _ _)) hw) ?_
       clear hK6 K6 hK5 K5 hK4 K4 hK2 K2 hK1 K1 hK0 K0
       first | exact ⟨rfl, rfl⟩ | (refine ⟨boolE ?_, rfl⟩; simp; done) | (refine ⟨boolE ?_, rfl⟩; simp_all; done)
       )
    ·try simp only [decide_eq_true_eq, decide_eq_false_iff_not, Bool.not_eq_true', Bool.not_eq_false', Int.not_lt, Int.not_le, Int.toNat_natCast] at hs0
     first
      | (exfalso; clear hK5 K5; clear hK4 K4; clear hK2 K2; clear hK1 K1; clear hK0 K0; first | omega | contradiction | (simp at *; omega))
      | (
       refine RL.st ?_
       refine NV.p T ?_
       refine RL.st ?_
       refine NV.call rfl rfl rfl fun10 rfl rfl (good sar nr cr) ?_
       rintro _ _ ⟨rfl, e⟩; obtain rfl := e.symm
       refine RL.st ?_
       refine NV.p T ?_
       refine RL.st ?_
       refine NV.p T ?_
       refine RL.nil _ _ _ _ ?_
       refine hK5 _ _ _ ?_
       refine SW.cond rfl (fun hc1 => ?_) (fun hc1 => ?_)
       ·try simp only [decide_eq_true_eq, decide_eq_false_iff_not, Bool.not_eq_true', Bool.not_eq_false', Int.not_lt, Int.not_le, Int.toNat_natCast] at hc1
        first
         | (exfalso; clear hK5 K5; clear hK4 K4; clear hK2 K2; clear hK1 K1; clear hK0 K0; first | omega | contradiction | (simp at *; omega))
         | (
          refine SW.seq_k ?_
          intro K7 hK7
          refine SW.region _ _ _ _ ?_
          refine RL.st ?_
          refine NV.p T ?_
          refine RL.nil _ _ _ _ ?_
          refine hK7 _ _ _ ?_
          refine SW.ret ?_
          refine retQ.ret (H' := H) (RVs.tmp (by conv => lhs; whnf) RVs.nil) (fun w hw => Sat.sub (by repeat first | exact List.Sublist.refl _ | apply List.Sublist.cons_cons | apply List.Sublist.cons | exact List.sublist_append_right _ _ | refine List.Sublist.trans ?_ (List.sublist_append_right _ _)) hw) ?_
          clear hK7 K7 hK5 K5 hK4 K4 hK2 K2 hK1 K1 hK0 K0
          first | exact ⟨rfl, rfl⟩ | (refine ⟨boolE ?_, rfl⟩; simp; done) | (refine ⟨boolE ?_, rfl⟩; simp_all; done)
          )
       ·try simp only [decide_eq_true_eq, decide_eq_false_iff_not, Bool.not_eq_true', Bool.not_eq_false', Int.not_lt, Int.not_le, Int.toNat_natCast] at hc1
        exfalso; clear hK5 K5; clear hK4 K4; clear hK2 K2; clear hK1 K1; clear hK0 K0; first | omega | contradiction | (simp at *; omega)
       )
    )
theorem puts_ok {w0 : World} {H : List Chunk} (sa : Option Addr) (n c : Nat) (es : List Int) (hR : ∀ H, Rd w0 H sa n c 1 (es.map (.int .u8))) (hn : n = es.length) (hm : n ≤ 140737488351232) (hb : Byte es) (sar : Option Addr) (nr cr : Nat) (esr : List Int) (hRr : ∀ H, Rd w0 H sar nr cr 1 (esr.map (.int .u8))) (hnr : nr = esr.length) (hmr : nr ≤ 140737488351232) (hbr : Byte esr) (h3 : (decide (n ≤ 3000) || decide (65536 < n)) = true) (h4 : (decide (nr ≤ 3000) || decide (65536 < nr)) = true) : SC Try.prog w0 3 #[.slice sa n c, .slice sar nr cr] H (fun v H' => v = .bool true ∧ H' = H) := by
 refine SC.enter Try.func3 rfl (Nat.le_of_ble_eq_true rfl) ?_
 refine SW.seq_k ?_
 intro K0 hK0
 refine SW.region _ _ _ _ ?_
 refine RL.st ?_
 refine NV.p T ?_
 refine RL.nil _ _ _ _ ?_
 refine hK0 _ _ _ ?_
 refine SW.seq_k ?_
 intro K1 hK1
 refine SW.seq_k ?_
 intro K2 hK2
 refine SW.region _ _ _ _ ?_
 refine RL.st ?_
 refine NV.call rfl rfl rfl fun9 rfl rfl (alive) ?_
 rintro _ _ ⟨rfl, e⟩; obtain rfl := e.symm
 refine RL.st ?_
 refine NV.p T ?_
 refine RL.nil _ _ _ _ ?_
 refine hK2 _ _ _ ?_
 refine SW.cond rfl (fun hc0 => ?_) (fun hc0 => ?_)
 ·try simp only [decide_eq_true_eq, decide_eq_false_iff_not, Bool.not_eq_true', Bool.not_eq_false', Int.not_lt, Int.not_le, Int.toNat_natCast] at hc0
  first
   | (exfalso; clear hK2 K2; clear hK1 K1; clear hK0 K0; first | omega | contradiction)
   | (
    refine SW.seq_k ?_
    intro K3 hK3
    refine SW.region _ _ _ _ ?_
    refine RL.st ?_
    refine NV.p T ?_
    refine RL.nil _ _ _ _ ?_
    refine hK3 _ _ _ ?_
    refine SW.ret ?_
    refine retQ.ret (H' := H) (RVs.tmp (by conv => lhs; whnf) RVs.nil) (fun w hw => Sat.sub (by repeat first | exact List.Sublist.refl _ | apply List.Sublist.cons_cons | apply List.Sublist.cons | exact List.sublist_append_right _ _ | refine List.Sublist.trans ?_ (List.sublist_append_right _ _)) hw) ?_
    clear hK3 K3 hK2 K2 hK1 K1 hK0 K0
    first | exact ⟨rfl, rfl⟩ | (refine ⟨boolE ?_, rfl⟩; simp; done) | (refine ⟨boolE ?_, rfl⟩; simp_all; done)
    )
 ·try simp only [decide_eq_true_eq, decide_eq_false_iff_not, Bool.not_eq_true', Bool.not_eq_false', Int.not_lt, Int.not_le, Int.toNat_natCast] at hc0
  first
   | (exfalso; clear hK2 K2; clear hK1 K1; clear hK0 K0; first | omega | contradiction)
   | (
    refine SW.skip ?_
    refine hK1 _ _ _ ?_
    refine SW.seq_k ?_
    intro K4 hK4
    refine SW.seq_k ?_
    intro K5 hK5
    refine SW.region _ _ _ _ ?_
    refine RL.st ?_
    refine NV.p T ?_
    refine RL.st ?_
    refine NV.call rfl rfl rfl fun10 rfl rfl ((good sa n c).mono (fun v H' g => by rw [h3] at g; exact g)) ?_
    rintro _ _ ⟨rfl, e⟩; obtain rfl := e.symm
    refine RL.st ?_
    refine NV.p T ?_
    refine RL.st ?_
    refine NV.p T ?_
    refine RL.split 22 rfl (fun hs0 => ?_) (fun hs0 => ?_)
    ·try simp only [decide_eq_true_eq, decide_eq_false_iff_not, Bool.not_eq_true', Bool.not_eq_false', Int.not_lt, Int.not_le, Int.toNat_natCast] at hs0
     first
      | (exfalso; clear hK5 K5; clear hK4 K4; clear hK2 K2; clear hK1 K1; clear hK0 K0; first | omega | contradiction)
      | (
       refine RL.guard_no rfl rfl rfl ?_
       refine RL.guard_no rfl rfl rfl ?_
       refine RL.guard_no rfl rfl rfl ?_
       refine RL.st ?_
       refine NV.p T ?_
       refine RL.nil _ _ _ _ ?_
       refine hK5 _ _ _ ?_
       refine SW.cond_t rfl ?_
       refine SW.seq_k ?_
       intro K6 hK6
       refine SW.region _ _ _ _ ?_
       refine RL.st ?_
       refine NV.p T ?_
       refine RL.nil _ _ _ _ ?_
       refine hK6 _ _ _ ?_
       refine SW.ret ?_
       refine retQ.ret (H' := H) (RVs.tmp (by conv => lhs; whnf) RVs.nil) (fun w hw => Sat.sub (by repeat first | exact List.Sublist.refl _ | apply List.Sublist.cons_cons | apply List.Sublist.cons | exact List.sublist_append_right _ _ | refine List.Sublist.trans ?_ (List.sublist_append_right _ _)) hw) ?_
       clear hK6 K6 hK5 K5 hK4 K4 hK2 K2 hK1 K1 hK0 K0
       first | exact ⟨rfl, rfl⟩ | (refine ⟨boolE ?_, rfl⟩; simp; done) | (refine ⟨boolE ?_, rfl⟩; simp_all; done)
       )
    ·try simp only [decide_eq_true_eq, decide_eq_false_iff_not, Bool.not_eq_true', Bool.not_eq_false', Int.not_lt, Int.not_le, Int.toNat_natCast] at hs0
     first
      | (exfalso; clear hK5 K5; clear hK4 K4; clear hK2 K2; clear hK1 K1; clear hK0 K0; first | omega | contradiction)
      | (
       refine RL.st ?_
       refine NV.p T ?_
       refine RL.st ?_
       refine NV.call rfl rfl rfl fun10 rfl rfl ((good sar nr cr).mono (fun v H' g => by rw [h4] at g; exact g)) ?_
       rintro _ _ ⟨rfl, e⟩; obtain rfl := e.symm
       refine RL.st ?_
       refine NV.p T ?_
       refine RL.st ?_
       refine NV.p T ?_
       refine RL.nil _ _ _ _ ?_
       refine hK5 _ _ _ ?_
       refine SW.cond rfl (fun hc1 => ?_) (fun hc1 => ?_)
       ·try simp only [decide_eq_true_eq, decide_eq_false_iff_not, Bool.not_eq_true', Bool.not_eq_false', Int.not_lt, Int.not_le, Int.toNat_natCast] at hc1
        first
         | (exfalso; clear hK5 K5; clear hK4 K4; clear hK2 K2; clear hK1 K1; clear hK0 K0; first | omega | contradiction)
         | (
          refine SW.seq_k ?_
          intro K7 hK7
          refine SW.region _ _ _ _ ?_
          refine RL.st ?_
          refine NV.p T ?_
          refine RL.nil _ _ _ _ ?_
          refine hK7 _ _ _ ?_
          refine SW.ret ?_
          refine retQ.ret (H' := H) (RVs.tmp (by conv => lhs; whnf) RVs.nil) (fun w hw => Sat.sub (by repeat first | exact List.Sublist.refl _ | apply List.Sublist.cons_cons | apply List.Sublist.cons | exact List.sublist_append_right _ _ | refine List.Sublist.trans ?_ (List.sublist_append_right _ _)) hw) ?_
          clear hK7 K7 hK5 K5 hK4 K4 hK2 K2 hK1 K1 hK0 K0
          first | exact ⟨rfl, rfl⟩ | (refine ⟨boolE ?_, rfl⟩; simp; done) | (refine ⟨boolE ?_, rfl⟩; simp_all; done)
          )
       ·try simp only [decide_eq_true_eq, decide_eq_false_iff_not, Bool.not_eq_true', Bool.not_eq_false', Int.not_lt, Int.not_le, Int.toNat_natCast] at hc1
        first
         | (exfalso; clear hK5 K5; clear hK4 K4; clear hK2 K2; clear hK1 K1; clear hK0 K0; first | omega | contradiction)
         | (
          refine SW.skip ?_
          refine hK4 _ _ _ ?_
          refine SW.seq_k ?_
          intro K8 hK8
          refine SW.region _ _ _ _ ?_
          refine RL.st ?_
          refine NV.p T ?_
          refine RL.st ?_
          refine NV.call rfl rfl rfl fun11 rfl rfl (sput sa n c es (hR _) hn hm hb) ?_
          rintro _ _ ⟨s1, k1, rfl, e⟩; obtain rfl := e.symm
          refine RL.st ?_
          refine NV.p T ?_
          refine RL.st ?_
          refine NV.p T ?_
          refine RL.st ?_
          refine NV.p T ?_
          refine RL.st ?_
          refine NV.p T ?_
          refine RL.st ?_
          refine NV.p T ?_
          refine RL.nil _ _ _ _ ?_
          refine hK8 _ _ _ ?_
          refine SW.seq_k ?_
          intro K9 hK9
          refine SW.region _ _ _ _ ?_
          refine RL.st ?_
          refine NV.p T ?_
          refine RL.st ?_
          refine NV.call rfl rfl rfl fun12 rfl rfl (srput sa n c es (hR _) hn hm hb) ?_
          rintro _ _ ⟨_, rfl, a2, n2, c2, rfl, hn2, hR2, G2, e⟩; obtain rfl := e.symm
          refine RL.st ?_
          refine NV.p T ?_
          refine RL.st ?_
          refine NV.p T ?_
          refine RL.st ?_
          refine NV.p T ?_
          refine RL.st ?_
          refine NV.p T ?_
          refine RL.st ?_
          refine NV.p T ?_
          refine RL.nil _ _ _ _ ?_
          refine hK9 _ _ _ ?_
          refine SW.seq_k ?_
          intro K10 hK10
          refine SW.region _ _ _ _ ?_
          refine RL.st ?_
          refine NV.p T ?_
          refine RL.st ?_
          refine NV.call rfl rfl rfl fun13 rfl rfl (sGet sar nr cr esr (hRr _) hnr hmr) ?_
          rintro _ _ ⟨_, rfl, a3, n3, c3, rfl, hn3, hR3, G3, e⟩; obtain rfl := e.symm
          refine RL.st ?_
          refine NV.p T ?_
          refine RL.st ?_
          refine NV.p T ?_
          refine RL.st ?_
          refine NV.p T ?_
          refine RL.st ?_
          refine NV.p T ?_
          refine RL.st ?_
          refine NV.p T ?_
          refine RL.nil _ _ _ _ ?_
          refine hK10 _ _ _ ?_
          refine SW.seq_k ?_
          intro K11 hK11
          refine SW.region _ _ _ _ ?_
          refine RL.st ?_
          refine NV.p T ?_
          refine RL.st ?_
          refine NV.call rfl rfl rfl fun14 rfl rfl (rGet sar nr cr esr (hRr _) hnr hmr) ?_
          rintro _ _ ⟨_, rfl, a4, n4, c4, rfl, hn4, hR4, G4, e⟩; obtain rfl := e.symm
          refine RL.st ?_
          refine NV.p T ?_
          refine RL.st ?_
          refine NV.p T ?_
          refine RL.st ?_
          refine NV.p T ?_
          refine RL.st ?_
          refine NV.p T ?_
          refine RL.st ?_
          refine NV.p T ?_
          refine RL.nil _ _ _ _ ?_
          refine hK11 _ _ _ ?_
          refine SW.seq_k ?_
          intro K12 hK12
          refine SW.region _ _ _ _ ?_
          refine RL.st ?_
          refine NV.p T ?_
          refine RL.st ?_
          refine NV.call rfl rfl rfl fun15 rfl rfl (sCnt sar nr cr esr (hRr _) hnr hmr) ?_
          rintro _ _ ⟨rfl, G5, e⟩; obtain rfl := e.symm
          refine RL.st ?_
          refine NV.p T ?_
          refine RL.st ?_
          refine NV.p T ?_
          refine RL.st ?_
          refine NV.p T ?_
          refine RL.st ?_
          refine NV.p T ?_
          refine RL.st ?_
          refine NV.p T ?_
          refine RL.nil _ _ _ _ ?_
          refine hK12 _ _ _ ?_
          refine SW.seq_k ?_
          intro K13 hK13
          refine SW.region _ _ _ _ ?_
          refine RL.st ?_
          refine NV.p T ?_
          refine RL.st ?_
          refine NV.call rfl rfl rfl fun16 rfl rfl (rCnt sar nr cr esr (hRr _) hnr hmr) ?_
          rintro _ _ ⟨rfl, G6, e⟩; obtain rfl := e.symm
          refine RL.st ?_
          refine NV.p T ?_
          refine RL.st ?_
          refine NV.p T ?_
          refine RL.st ?_
          refine NV.p T ?_
          refine RL.st ?_
          refine NV.p T ?_
          refine RL.st ?_
          refine NV.p T ?_
          refine RL.nil _ _ _ _ ?_
          refine hK13 _ _ _ ?_
          refine SW.seq_k ?_
          intro K14 hK14
          refine SW.region _ _ _ _ ?_
          refine RL.st ?_
          refine NV.p T ?_
          refine RL.st ?_
          refine NV.p T ?_
          refine RL.st ?_
          refine NV.sat (fun hs => ?_) (fun c hc => by cases hc)
          refine NV.call rfl rfl rfl fun17 rfl rfl ((same _ _ _ _ _ _ _ _ (Rd.row (by repeat first | exact At.head _ _ | apply At.tail | apply At.app) hs) (by repeat first | exact hR2 | apply Rd.cons | apply Rd.app) rfl hn2 (by have := putV_le es; omega) (by rw [hn2]; have := putV_le es; omega)).mono (fun v H' h => by rw [decide_eq_true rfl] at h; exact h)) ?_
          rintro _ _ ⟨rfl, e⟩; obtain rfl := e.symm
          refine RL.st ?_
          refine NV.p T ?_
          refine RL.split 60 rfl (fun hs1 => ?_) (fun hs1 => ?_)
          ·try simp only [decide_eq_true_eq, decide_eq_false_iff_not, Bool.not_eq_true', Bool.not_eq_false', Int.not_lt, Int.not_le, Int.toNat_natCast] at hs1
           first
            | (exfalso; clear hK14 K14; clear hK13 K13; clear hK12 K12; clear hK11 K11; clear hK10 K10; clear hK9 K9; clear hK8 K8; clear hK5 K5; clear hK4 K4; clear hK2 K2; clear hK1 K1; clear hK0 K0; first | omega | contradiction)
            | (
             refine RL.st ?_
             refine NV.p T ?_
             refine RL.st ?_
             refine NV.p T ?_
             refine RL.st ?_
             refine NV.p T ?_
             refine RL.st ?_
             refine NV.p T ?_
             refine RL.st ?_
             refine NV.p T ?_
             refine RL.split 65 rfl (fun hs2 => ?_) (fun hs2 => ?_)
             ·try simp only [decide_eq_true_eq, decide_eq_false_iff_not, Bool.not_eq_true', Bool.not_eq_false', Int.not_lt, Int.not_le, Int.toNat_natCast] at hs2
              first
               | (exfalso; clear hK14 K14; clear hK13 K13; clear hK12 K12; clear hK11 K11; clear hK10 K10; clear hK9 K9; clear hK8 K8; clear hK5 K5; clear hK4 K4; clear hK2 K2; clear hK1 K1; clear hK0 K0; first | omega | contradiction)
               | (
                refine RL.st ?_
                refine NV.p T ?_
                refine RL.st ?_
                refine NV.p T ?_
                refine RL.st ?_
                refine NV.call rfl rfl rfl fun17 rfl rfl ((same _ _ _ _ _ _ _ _ (by repeat first | exact hR3 | apply Rd.cons | apply Rd.app) (by repeat first | exact hR4 | apply Rd.cons | apply Rd.app) hn3 hn4 (by rw [hn3]; have := getV_le esr; omega) (by rw [hn4]; have := getV_le esr; omega)).mono (fun v H' h => by rw [decide_eq_true rfl] at h; exact h)) ?_
                rintro _ _ ⟨rfl, e⟩; obtain rfl := e.symm
                refine RL.st ?_
                refine NV.p T ?_
                refine RL.st ?_
                refine NV.p T ?_
                refine RL.split 70 rfl (fun hs3 => ?_) (fun hs3 => ?_)
                ·try simp only [decide_eq_true_eq, decide_eq_false_iff_not, Bool.not_eq_true', Bool.not_eq_false', Int.not_lt, Int.not_le, Int.toNat_natCast] at hs3
                 first
                  | (exfalso; clear hK14 K14; clear hK13 K13; clear hK12 K12; clear hK11 K11; clear hK10 K10; clear hK9 K9; clear hK8 K8; clear hK5 K5; clear hK4 K4; clear hK2 K2; clear hK1 K1; clear hK0 K0; first | omega | contradiction)
                  | (
                   refine RL.st ?_
                   refine NV.p T ?_
                   refine RL.st ?_
                   refine NV.p T ?_
                   refine RL.st ?_
                   refine NV.p T ?_
                   refine RL.st ?_
                   refine NV.p T ?_
                   refine RL.st ?_
                   refine NV.p T ?_
                   refine RL.split 75 rfl (fun hs4 => ?_) (fun hs4 => ?_)
                   ·try simp only [decide_eq_true_eq, decide_eq_false_iff_not, Bool.not_eq_true', Bool.not_eq_false', Int.not_lt, Int.not_le, Int.toNat_natCast] at hs4
                    first
                     | (exfalso; clear hK14 K14; clear hK13 K13; clear hK12 K12; clear hK11 K11; clear hK10 K10; clear hK9 K9; clear hK8 K8; clear hK5 K5; clear hK4 K4; clear hK2 K2; clear hK1 K1; clear hK0 K0; first | omega | contradiction)
                     | (
                      refine RL.st ?_
                      refine NV.p T ?_
                      refine RL.st ?_
                      refine NV.p T ?_
                      refine RL.st ?_
                      refine NV.p T ?_
                      refine RL.st ?_
                      refine NV.p T ?_
                      refine RL.st ?_
                      refine NV.p T ?_
                      refine RL.split 80 rfl (fun hs5 => ?_) (fun hs5 => ?_)
                      ·try simp only [decide_eq_true_eq, decide_eq_false_iff_not, Bool.not_eq_true', Bool.not_eq_false', Int.not_lt, Int.not_le, Int.toNat_natCast] at hs5
                       first
                        | (exfalso; clear hK14 K14; clear hK13 K13; clear hK12 K12; clear hK11 K11; clear hK10 K10; clear hK9 K9; clear hK8 K8; clear hK5 K5; clear hK4 K4; clear hK2 K2; clear hK1 K1; clear hK0 K0; first | omega | contradiction)
                        | (
                         refine RL.st ?_
                         refine NV.p T ?_
                         refine RL.st ?_
                         refine NV.p T ?_
                         refine RL.st ?_
                         refine NV.p T ?_
                         refine RL.st ?_
                         refine NV.p T ?_
                         refine RL.st ?_
                         refine NV.p T ?_
                         refine RL.nil _ _ _ _ ?_
                         refine hK14 _ _ _ ?_
                         refine SW.ret ?_
                         refine retQ.ret (H' := H) (RVs.tmp (by conv => lhs; whnf) RVs.nil) (fun w hw => Sat.sub (by repeat first | exact List.Sublist.refl _ | apply List.Sublist.cons_cons | apply List.Sublist.cons | exact List.sublist_append_right _ _ | refine List.Sublist.trans ?_ (List.sublist_append_right _ _)) hw) ?_
                         clear hK14 K14 hK13 K13 hK12 K12 hK11 K11 hK10 K10 hK9 K9 hK8 K8 hK5 K5 hK4 K4 hK2 K2 hK1 K1 hK0 K0
                         first | exact ⟨rfl, rfl⟩ | (refine ⟨boolE ?_, rfl⟩; simp; done) | (refine ⟨boolE ?_, rfl⟩; simp_all; done)
                         )
                      ·try simp only [decide_eq_true_eq, decide_eq_false_iff_not, Bool.not_eq_true', Bool.not_eq_false', Int.not_lt, Int.not_le, Int.toNat_natCast] at hs5
                       first
                        | (exfalso; clear hK14 K14; clear hK13 K13; clear hK12 K12; clear hK11 K11; clear hK10 K10; clear hK9 K9; clear hK8 K8; clear hK5 K5; clear hK4 K4; clear hK2 K2; clear hK1 K1; clear hK0 K0; first | omega | contradiction)
                        | (
                         refine RL.guard_no rfl rfl rfl ?_
                         refine RL.guard_no rfl rfl rfl ?_
                         refine RL.guard_no rfl rfl rfl ?_
                         refine RL.st ?_
                         refine NV.p T ?_
                         refine RL.st ?_
                         refine NV.p T ?_
                         refine RL.nil _ _ _ _ ?_
                         refine hK14 _ _ _ ?_
                         refine SW.ret ?_
                         refine retQ.ret (H' := H) (RVs.tmp (by conv => lhs; whnf) RVs.nil) (fun w hw => Sat.sub (by repeat first | exact List.Sublist.refl _ | apply List.Sublist.cons_cons | apply List.Sublist.cons | exact List.sublist_append_right _ _ | refine List.Sublist.trans ?_ (List.sublist_append_right _ _)) hw) ?_
                         clear hK14 K14 hK13 K13 hK12 K12 hK11 K11 hK10 K10 hK9 K9 hK8 K8 hK5 K5 hK4 K4 hK2 K2 hK1 K1 hK0 K0
                         first | exact ⟨rfl, rfl⟩ | (refine ⟨boolE ?_, rfl⟩; simp; done) | (refine ⟨boolE ?_, rfl⟩; simp_all; done)
                         )
                      )
                   ·try simp only [decide_eq_true_eq, decide_eq_false_iff_not, Bool.not_eq_true', Bool.not_eq_false', Int.not_lt, Int.not_le, Int.toNat_natCast] at hs4
                    first
                     | (exfalso; clear hK14 K14; clear hK13 K13; clear hK12 K12; clear hK11 K11; clear hK10 K10; clear hK9 K9; clear hK8 K8; clear hK5 K5; clear hK4 K4; clear hK2 K2; clear hK1 K1; clear hK0 K0; first | omega | contradiction)
                     | (
                      refine RL.guard_no rfl rfl rfl ?_
                      refine RL.guard_no rfl rfl rfl ?_
                      refine RL.guard_no rfl rfl rfl ?_
                      refine RL.st ?_
                      refine NV.p T ?_
                      refine RL.st ?_
                      refine NV.p T ?_
                      refine RL.guard_no rfl rfl rfl ?_
                      refine RL.guard_no rfl rfl rfl ?_
                      refine RL.guard_no rfl rfl rfl ?_
                      refine RL.st ?_
                      refine NV.p T ?_
                      refine RL.st ?_
                      refine NV.p T ?_
                      refine RL.nil _ _ _ _ ?_
                      refine hK14 _ _ _ ?_
                      refine SW.ret ?_
                      refine retQ.ret (H' := H) (RVs.tmp (by conv => lhs; whnf) RVs.nil) (fun w hw => Sat.sub (by repeat first | exact List.Sublist.refl _ | apply List.Sublist.cons_cons | apply List.Sublist.cons | exact List.sublist_append_right _ _ | refine List.Sublist.trans ?_ (List.sublist_append_right _ _)) hw) ?_
                      clear hK14 K14 hK13 K13 hK12 K12 hK11 K11 hK10 K10 hK9 K9 hK8 K8 hK5 K5 hK4 K4 hK2 K2 hK1 K1 hK0 K0
                      first | exact ⟨rfl, rfl⟩ | (refine ⟨boolE ?_, rfl⟩; simp; done) | (refine ⟨boolE ?_, rfl⟩; simp_all; done)
                      )
                   )
                ·try simp only [decide_eq_true_eq, decide_eq_false_iff_not, Bool.not_eq_true', Bool.not_eq_false', Int.not_lt, Int.not_le, Int.toNat_natCast] at hs3
                 first
                  | (exfalso; clear hK14 K14; clear hK13 K13; clear hK12 K12; clear hK11 K11; clear hK10 K10; clear hK9 K9; clear hK8 K8; clear hK5 K5; clear hK4 K4; clear hK2 K2; clear hK1 K1; clear hK0 K0; first | omega | contradiction)
                  | (
                   refine RL.guard_no rfl rfl rfl ?_
                   refine RL.guard_no rfl rfl rfl ?_
                   refine RL.guard_no rfl rfl rfl ?_
                   refine RL.st ?_
                   refine NV.p T ?_
                   refine RL.st ?_
                   refine NV.p T ?_
                   refine RL.guard_no rfl rfl rfl ?_
                   refine RL.guard_no rfl rfl rfl ?_
                   refine RL.guard_no rfl rfl rfl ?_
                   refine RL.st ?_
                   refine NV.p T ?_
                   refine RL.st ?_
                   refine NV.p T ?_
                   refine RL.guard_no rfl rfl rfl ?_
                   refine RL.guard_no rfl rfl rfl ?_
                   refine RL.guard_no rfl rfl rfl ?_
                   refine RL.st ?_
                   refine NV.p T ?_
                   refine RL.st ?_
                   refine NV.p T ?_
                   refine RL.nil _ _ _ _ ?_
                   refine hK14 _ _ _ ?_
                   refine SW.ret ?_
                   refine retQ.ret (H' := H) (RVs.tmp (by conv => lhs; whnf) RVs.nil) (fun w hw => Sat.sub (by repeat first | exact List.Sublist.refl _ | apply List.Sublist.cons_cons | apply List.Sublist.cons | exact List.sublist_append_right _ _ | refine List.Sublist.trans ?_ (List.sublist_append_right _ _)) hw) ?_
                   clear hK14 K14 hK13 K13 hK12 K12 hK11 K11 hK10 K10 hK9 K9 hK8 K8 hK5 K5 hK4 K4 hK2 K2 hK1 K1 hK0 K0
                   first | exact ⟨rfl, rfl⟩ | (refine ⟨boolE ?_, rfl⟩; simp; done) | (refine ⟨boolE ?_, rfl⟩; simp_all; done)
                   )
                )
             ·try simp only [decide_eq_true_eq, decide_eq_false_iff_not, Bool.not_eq_true', Bool.not_eq_false', Int.not_lt, Int.not_le, Int.toNat_natCast] at hs2
              first
               | (exfalso; clear hK14 K14; clear hK13 K13; clear hK12 K12; clear hK11 K11; clear hK10 K10; clear hK9 K9; clear hK8 K8; clear hK5 K5; clear hK4 K4; clear hK2 K2; clear hK1 K1; clear hK0 K0; first | omega | contradiction)
               | (
                refine RL.guard_no rfl rfl rfl ?_
                refine RL.guard_no rfl rfl rfl ?_
                refine RL.guard_no rfl rfl rfl ?_
                refine RL.st ?_
                refine NV.p T ?_
                refine RL.st ?_
                refine NV.p T ?_
                refine RL.guard_no rfl rfl rfl ?_
                refine RL.guard_no rfl rfl rfl ?_
                refine RL.guard_no rfl rfl rfl ?_
                refine RL.st ?_
                refine NV.p T ?_
                refine RL.st ?_
                refine NV.p T ?_
                refine RL.guard_no rfl rfl rfl ?_
                refine RL.guard_no rfl rfl rfl ?_
                refine RL.guard_no rfl rfl rfl ?_
                refine RL.st ?_
                refine NV.p T ?_
                refine RL.st ?_
                refine NV.p T ?_
                refine RL.guard_no rfl rfl rfl ?_
                refine RL.guard_no rfl rfl rfl ?_
                refine RL.guard_no rfl rfl rfl ?_
                refine RL.st ?_
                refine NV.p T ?_
                refine RL.st ?_
                refine NV.p T ?_
                refine RL.nil _ _ _ _ ?_
                refine hK14 _ _ _ ?_
                refine SW.ret ?_
                refine retQ.ret (H' := H) (RVs.tmp (by conv => lhs; whnf) RVs.nil) (fun w hw => Sat.sub (by repeat first | exact List.Sublist.refl _ | apply List.Sublist.cons_cons | apply List.Sublist.cons | exact List.sublist_append_right _ _ | refine List.Sublist.trans ?_ (List.sublist_append_right _ _)) hw) ?_
                clear hK14 K14 hK13 K13 hK12 K12 hK11 K11 hK10 K10 hK9 K9 hK8 K8 hK5 K5 hK4 K4 hK2 K2 hK1 K1 hK0 K0
                first | exact ⟨rfl, rfl⟩ | (refine ⟨boolE ?_, rfl⟩; simp; done) | (refine ⟨boolE ?_, rfl⟩; simp_all; done)
                )
             )
          ·try simp only [decide_eq_true_eq, decide_eq_false_iff_not, Bool.not_eq_true', Bool.not_eq_false', Int.not_lt, Int.not_le, Int.toNat_natCast] at hs1
           first
            | (exfalso; clear hK14 K14; clear hK13 K13; clear hK12 K12; clear hK11 K11; clear hK10 K10; clear hK9 K9; clear hK8 K8; clear hK5 K5; clear hK4 K4; clear hK2 K2; clear hK1 K1; clear hK0 K0; first | omega | contradiction)
            | (
             refine RL.guard_no rfl rfl rfl ?_
             refine RL.guard_no rfl rfl rfl ?_
             refine RL.guard_no rfl rfl rfl ?_
             refine RL.st ?_
             refine NV.p T ?_
             refine RL.st ?_
             refine NV.p T ?_
             refine RL.guard_no rfl rfl rfl ?_
             refine RL.guard_no rfl rfl rfl ?_
             refine RL.guard_no rfl rfl rfl ?_
             refine RL.st ?_
             refine NV.p T ?_
             refine RL.st ?_
             refine NV.p T ?_
             refine RL.guard_no rfl rfl rfl ?_
             refine RL.guard_no rfl rfl rfl ?_
             refine RL.guard_no rfl rfl rfl ?_
             refine RL.st ?_
             refine NV.p T ?_
             refine RL.st ?_
             refine NV.p T ?_
             refine RL.guard_no rfl rfl rfl ?_
             refine RL.guard_no rfl rfl rfl ?_
             refine RL.guard_no rfl rfl rfl ?_
             refine RL.st ?_
             refine NV.p T ?_
             refine RL.st ?_
             refine NV.p T ?_
             refine RL.guard_no rfl rfl rfl ?_
             refine RL.guard_no rfl rfl rfl ?_
             refine RL.guard_no rfl rfl rfl ?_
             refine RL.st ?_
             refine NV.p T ?_
             refine RL.st ?_
             refine NV.p T ?_
             refine RL.nil _ _ _ _ ?_
             refine hK14 _ _ _ ?_
             refine SW.ret ?_
             refine retQ.ret (H' := H) (RVs.tmp (by conv => lhs; whnf) RVs.nil) (fun w hw => Sat.sub (by repeat first | exact List.Sublist.refl _ | apply List.Sublist.cons_cons | apply List.Sublist.cons | exact List.sublist_append_right _ _ | refine List.Sublist.trans ?_ (List.sublist_append_right _ _)) hw) ?_
             clear hK14 K14 hK13 K13 hK12 K12 hK11 K11 hK10 K10 hK9 K9 hK8 K8 hK5 K5 hK4 K4 hK2 K2 hK1 K1 hK0 K0
             first | exact ⟨rfl, rfl⟩ | (refine ⟨boolE ?_, rfl⟩; simp; done) | (refine ⟨boolE ?_, rfl⟩; simp_all; done)
             )
          )
       )
    )
theorem stuffPuts {w0 : World} {H : List Chunk} (sa : Option Addr) (n c : Nat) (es : List Int) (hR : ∀ H, Rd w0 H sa n c 1 (es.map (.int .u8))) (hn : n = es.length) (hm : n ≤ 140737488351232) (hb : Byte es) (sar : Option Addr) (nr cr : Nat) (esr : List Int) (hRr : ∀ H, Rd w0 H sar nr cr 1 (esr.map (.int .u8))) (hnr : nr = esr.length) (hmr : nr ≤ 140737488351232) (hbr : Byte esr) : SC Try.prog w0 3 #[.slice sa n c, .slice sar nr cr] H (fun v H' => v = .bool true ∧ H' = H) := by
  by_cases h : (n ≤ 3000 ∨ 65536 < n) ∧ (nr ≤ 3000 ∨ 65536 < nr)
  · exact puts_ok sa n c es hR hn hm hb sar nr cr esr hRr hnr hmr hbr (by simp; omega) (by simp; omega)
  · exact puts_no sa n c es hR hn hm hb sar nr cr esr hRr hnr hmr hbr (by omega)
end Go.Proofs.Ytilffbgepliamaa.M
