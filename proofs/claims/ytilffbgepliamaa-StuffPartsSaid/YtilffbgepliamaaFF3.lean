import Derived.Test.YtilffbgepliamaaProg
import Derived.Test.YtilffbgepliamaaFE3
import Derived.Test.YtilffbgepliamaaP3t
set_option linter.unusedVariables false
set_option linter.unusedSimpArgs false
namespace Go.Proofs.Ytilffbgepliamaa.M
open Go Go.Sep Go.Proofs
set_option maxRecDepth 10000
set_option maxHeartbeats 2000000
theorem rtake_bad {w0 : World} {H : List Chunk} (sa : Option Addr) (n c : Nat) (es : List Int) (hR : Rd w0 H sa n c 1 (es.map (.int .u8))) (hn : n = es.length) (hm : n ≤ 140737488351232) (m : Int) (hc : chk es = 2) : SC Try.prog w0 21 #[.slice sa n c, .int .i64 m] H (fun v H' => v = .tuple #[.slice none 0 0, .int .i64 0, .int .i64 2] ∧ H' = H) := by
 refine SC.enter Try.func21 rfl (Nat.le_of_ble_eq_true rfl) ?_
 refine SW.seq_k ?_
 intro K0 hK0
 refine SW.region _ _ _ _ ?_
 refine RL.st ?_
 refine NV.p T ?_
 refine RL.st ?_
 refine NV.p T ?_
 refine RL.st ?_
 refine NV.p T ?_
 refine RL.nil _ _ _ _ ?_
 refine hK0 _ _ _ ?_
 refine SW.seq_k ?_
 intro K1 hK1
 refine SW.seq_k ?_
 intro K2 hK2
 refine SW.region _ _ _ _ ?_
 refine RL.st ?_
 refine NV.p T ?_
 refine RL.st ?_
 refine NV.call rfl rfl rfl fun25 rfl rfl ((rcheck sa n c es hR hn hm).mono (fun v H' h => by rw [hc] at h; exact h)) ?_
 rintro _ _ ⟨rfl, e⟩; obtain rfl := e.symm
 refine RL.st ?_
 refine NV.p T ?_
 refine RL.nil _ _ _ _ ?_
 refine hK2 _ _ _ ?_
 refine SW.seq_k ?_
 intro K3 hK3
 refine SW.region _ _ _ _ ?_
 refine RL.st ?_
 refine NV.p T ?_
 refine RL.st ?_
 refine NV.p T ?_
 refine RL.nil _ _ _ _ ?_
 refine hK3 _ _ _ ?_
 refine SW.cond rfl (fun hc0 => ?_) (fun hc0 => ?_)
 ·try simp only [decide_eq_true_eq, decide_eq_false_iff_not, Bool.not_eq_true', Bool.not_eq_false', Int.not_lt, Int.not_le, Int.toNat_natCast] at hc0
  first
   | (exfalso; clear hK3 K3; clear hK2 K2; clear hK1 K1; clear hK0 K0; first | omega | contradiction)
   | (
    refine SW.seq_k ?_
    intro K4 hK4
    refine SW.region _ _ _ _ ?_
    refine RL.st ?_
    refine NV.p T ?_
    refine RL.st ?_
    refine NV.p T ?_
    refine RL.st ?_
    refine NV.p T ?_
    refine RL.st ?_
    refine NV.p T ?_
    refine RL.nil _ _ _ _ ?_
    refine hK4 _ _ _ ?_
    refine SW.ret ?_
    refine retQ.ret (H' := H) (RVs.tmp (by conv => lhs; whnf) (RVs.tmp (by conv => lhs; whnf) (RVs.tmp (by conv => lhs; whnf) RVs.nil))) (fun w hw => Sat.sub (by repeat first | exact List.Sublist.refl _ | apply List.Sublist.cons_cons | apply List.Sublist.cons | exact List.sublist_append_right _ _ | refine List.Sublist.trans ?_ (List.sublist_append_right _ _)) hw) ?_
    clear hK4 K4 hK3 K3 hK2 K2 hK1 K1 hK0 K0
    exact ⟨rfl, rfl⟩
    )
 ·try simp only [decide_eq_true_eq, decide_eq_false_iff_not, Bool.not_eq_true', Bool.not_eq_false', Int.not_lt, Int.not_le, Int.toNat_natCast] at hc0
  first
   | (exfalso; clear hK3 K3; clear hK2 K2; clear hK1 K1; clear hK0 K0; first | omega | contradiction)
   | (
    refine SW.skip ?_
    refine hK1 _ _ _ ?_
    refine SW.seq_k ?_
    intro K5 hK5
    refine SW.seq_k ?_
    intro K6 hK6
    refine SW.region _ _ _ _ ?_
    refine RL.st ?_
    refine NV.p T ?_
    refine RL.st ?_
    refine NV.p T ?_
    refine RL.st ?_
    refine NV.p T ?_
    refine RL.split 18 rfl (fun hs0 => ?_) (fun hs0 => ?_)
    ·try simp only [decide_eq_true_eq, decide_eq_false_iff_not, Bool.not_eq_true', Bool.not_eq_false', Int.not_lt, Int.not_le, Int.toNat_natCast] at hs0
     first
      | (exfalso; clear hK6 K6; clear hK5 K5; clear hK3 K3; clear hK2 K2; clear hK1 K1; clear hK0 K0; first | omega | contradiction)
      | (
       refine RL.guard_no rfl rfl rfl ?_
       refine RL.guard_no rfl rfl rfl ?_
       refine RL.st ?_
       refine NV.p T ?_
       refine RL.nil _ _ _ _ ?_
       refine hK6 _ _ _ ?_
       refine SW.cond_t rfl ?_
       refine SW.seq_k ?_
       intro K7 hK7
       refine SW.region _ _ _ _ ?_
       refine RL.st ?_
       refine NV.p T ?_
       refine RL.st ?_
       refine NV.p T ?_
       refine RL.st ?_
       refine NV.p T ?_
       refine RL.nil _ _ _ _ ?_
       refine hK7 _ _ _ ?_
       refine SW.ret ?_
       refine retQ.ret (H' := H) (RVs.tmp (by conv => lhs; whnf) (RVs.tmp (by conv => lhs; whnf) (RVs.tmp (by conv => lhs; whnf) RVs.nil))) (fun w hw => Sat.sub (by repeat first | exact List.Sublist.refl _ | apply List.Sublist.cons_cons | apply List.Sublist.cons | exact List.sublist_append_right _ _ | refine List.Sublist.trans ?_ (List.sublist_append_right _ _)) hw) ?_
       clear hK7 K7 hK6 K6 hK5 K5 hK3 K3 hK2 K2 hK1 K1 hK0 K0
       exact ⟨rfl, rfl⟩
       )
    ·try simp only [decide_eq_true_eq, decide_eq_false_iff_not, Bool.not_eq_true', Bool.not_eq_false', Int.not_lt, Int.not_le, Int.toNat_natCast] at hs0
     first
      | (exfalso; clear hK6 K6; clear hK5 K5; clear hK3 K3; clear hK2 K2; clear hK1 K1; clear hK0 K0; first | omega | contradiction)
      | (
       refine RL.st ?_
       refine NV.p T ?_
       refine RL.st ?_
       refine NV.p T ?_
       refine RL.st ?_
       refine NV.p T ?_
       refine RL.nil _ _ _ _ ?_
       refine hK6 _ _ _ ?_
       refine SW.cond rfl (fun hc1 => ?_) (fun hc1 => ?_)
       ·try simp only [decide_eq_true_eq, decide_eq_false_iff_not, Bool.not_eq_true', Bool.not_eq_false', Int.not_lt, Int.not_le, Int.toNat_natCast] at hc1
        first
         | (exfalso; clear hK6 K6; clear hK5 K5; clear hK3 K3; clear hK2 K2; clear hK1 K1; clear hK0 K0; first | omega | contradiction)
         | (
          refine SW.seq_k ?_
          intro K8 hK8
          refine SW.region _ _ _ _ ?_
          refine RL.st ?_
          refine NV.p T ?_
          refine RL.st ?_
          refine NV.p T ?_
          refine RL.st ?_
          refine NV.p T ?_
          refine RL.nil _ _ _ _ ?_
          refine hK8 _ _ _ ?_
          refine SW.ret ?_
          refine retQ.ret (H' := H) (RVs.tmp (by conv => lhs; whnf) (RVs.tmp (by conv => lhs; whnf) (RVs.tmp (by conv => lhs; whnf) RVs.nil))) (fun w hw => Sat.sub (by repeat first | exact List.Sublist.refl _ | apply List.Sublist.cons_cons | apply List.Sublist.cons | exact List.sublist_append_right _ _ | refine List.Sublist.trans ?_ (List.sublist_append_right _ _)) hw) ?_
          clear hK8 K8 hK6 K6 hK5 K5 hK3 K3 hK2 K2 hK1 K1 hK0 K0
          exact ⟨rfl, rfl⟩
          )
       ·try simp only [decide_eq_true_eq, decide_eq_false_iff_not, Bool.not_eq_true', Bool.not_eq_false', Int.not_lt, Int.not_le, Int.toNat_natCast] at hc1
        exfalso; clear hK6 K6; clear hK5 K5; clear hK3 K3; clear hK2 K2; clear hK1 K1; clear hK0 K0; first | omega | contradiction
       )
    )
theorem rtake_arg {w0 : World} {H : List Chunk} (sa : Option Addr) (n c : Nat) (es : List Int) (hR : Rd w0 H sa n c 1 (es.map (.int .u8))) (hn : n = es.length) (hm : n ≤ 140737488351232) (m : Int) (hc : chk es = 0) (h : m < 0 ∨ 65536 < m) : SC Try.prog w0 21 #[.slice sa n c, .int .i64 m] H (fun v H' => v = .tuple #[.slice none 0 0, .int .i64 0, .int .i64 2] ∧ H' = H) := by
 refine SC.enter Try.func21 rfl (Nat.le_of_ble_eq_true rfl) ?_
 refine SW.seq_k ?_
 intro K0 hK0
 refine SW.region _ _ _ _ ?_
 refine RL.st ?_
 refine NV.p T ?_
 refine RL.st ?_
 refine NV.p T ?_
 refine RL.st ?_
 refine NV.p T ?_
 refine RL.nil _ _ _ _ ?_
 refine hK0 _ _ _ ?_
 refine SW.seq_k ?_
 intro K1 hK1
 refine SW.seq_k ?_
 intro K2 hK2
 refine SW.region _ _ _ _ ?_
 refine RL.st ?_
 refine NV.p T ?_
 refine RL.st ?_
 refine NV.call rfl rfl rfl fun25 rfl rfl ((rcheck sa n c es hR hn hm).mono (fun v H' h => by rw [hc] at h; exact h)) ?_
 rintro _ _ ⟨rfl, e⟩; obtain rfl := e.symm
 refine RL.st ?_
 refine NV.p T ?_
 refine RL.nil _ _ _ _ ?_
 refine hK2 _ _ _ ?_
 refine SW.seq_k ?_
 intro K3 hK3
 refine SW.region _ _ _ _ ?_
 refine RL.st ?_
 refine NV.p T ?_
 refine RL.st ?_
 refine NV.p T ?_
 refine RL.nil _ _ _ _ ?_
 refine hK3 _ _ _ ?_
 refine SW.cond rfl (fun hc0 => ?_) (fun hc0 => ?_)
 ·try simp only [decide_eq_true_eq, decide_eq_false_iff_not, Bool.not_eq_true', Bool.not_eq_false', Int.not_lt, Int.not_le, Int.toNat_natCast] at hc0
  first
   | (exfalso; clear hK3 K3; clear hK2 K2; clear hK1 K1; clear hK0 K0; first | omega | contradiction)
   | (
    refine SW.seq_k ?_
    intro K4 hK4
    refine SW.region _ _ _ _ ?_
    refine RL.st ?_
    refine NV.p T ?_
    refine RL.st ?_
    refine NV.p T ?_
    refine RL.st ?_
    refine NV.p T ?_
    refine RL.st ?_
    refine NV.p T ?_
    refine RL.nil _ _ _ _ ?_
    refine hK4 _ _ _ ?_
    refine SW.ret ?_
    refine retQ.ret (H' := H) (RVs.tmp (by conv => lhs; whnf) (RVs.tmp (by conv => lhs; whnf) (RVs.tmp (by conv => lhs; whnf) RVs.nil))) (fun w hw => Sat.sub (by repeat first | exact List.Sublist.refl _ | apply List.Sublist.cons_cons | apply List.Sublist.cons | exact List.sublist_append_right _ _ | refine List.Sublist.trans ?_ (List.sublist_append_right _ _)) hw) ?_
    clear hK4 K4 hK3 K3 hK2 K2 hK1 K1 hK0 K0
    exact ⟨rfl, rfl⟩
    )
 ·try simp only [decide_eq_true_eq, decide_eq_false_iff_not, Bool.not_eq_true', Bool.not_eq_false', Int.not_lt, Int.not_le, Int.toNat_natCast] at hc0
  first
   | (exfalso; clear hK3 K3; clear hK2 K2; clear hK1 K1; clear hK0 K0; first | omega | contradiction)
   | (
    refine SW.skip ?_
    refine hK1 _ _ _ ?_
    refine SW.seq_k ?_
    intro K5 hK5
    refine SW.seq_k ?_
    intro K6 hK6
    refine SW.region _ _ _ _ ?_
    refine RL.st ?_
    refine NV.p T ?_
    refine RL.st ?_
    refine NV.p T ?_
    refine RL.st ?_
    refine NV.p T ?_
    refine RL.split 18 rfl (fun hs0 => ?_) (fun hs0 => ?_)
    ·try simp only [decide_eq_true_eq, decide_eq_false_iff_not, Bool.not_eq_true', Bool.not_eq_false', Int.not_lt, Int.not_le, Int.toNat_natCast] at hs0
     first
      | (exfalso; clear hK6 K6; clear hK5 K5; clear hK3 K3; clear hK2 K2; clear hK1 K1; clear hK0 K0; first | omega | contradiction)
      | (
       refine RL.guard_no rfl rfl rfl ?_
       refine RL.guard_no rfl rfl rfl ?_
       refine RL.st ?_
       refine NV.p T ?_
       refine RL.nil _ _ _ _ ?_
       refine hK6 _ _ _ ?_
       refine SW.cond_t rfl ?_
       refine SW.seq_k ?_
       intro K7 hK7
       refine SW.region _ _ _ _ ?_
       refine RL.st ?_
       refine NV.p T ?_
       refine RL.st ?_
       refine NV.p T ?_
       refine RL.st ?_
       refine NV.p T ?_
       refine RL.nil _ _ _ _ ?_
       refine hK7 _ _ _ ?_
       refine SW.ret ?_
       refine retQ.ret (H' := H) (RVs.tmp (by conv => lhs; whnf) (RVs.tmp (by conv => lhs; whnf) (RVs.tmp (by conv => lhs; whnf) RVs.nil))) (fun w hw => Sat.sub (by repeat first | exact List.Sublist.refl _ | apply List.Sublist.cons_cons | apply List.Sublist.cons | exact List.sublist_append_right _ _ | refine List.Sublist.trans ?_ (List.sublist_append_right _ _)) hw) ?_
       clear hK7 K7 hK6 K6 hK5 K5 hK3 K3 hK2 K2 hK1 K1 hK0 K0
       exact ⟨rfl, rfl⟩
       )
    ·try simp only [decide_eq_true_eq, decide_eq_false_iff_not, Bool.not_eq_true', Bool.not_eq_false', Int.not_lt, Int.not_le, Int.toNat_natCast] at hs0
     first
      | (exfalso; clear hK6 K6; clear hK5 K5; clear hK3 K3; clear hK2 K2; clear hK1 K1; clear hK0 K0; first | omega | contradiction)
      | (
       refine RL.st ?_
       refine NV.p T ?_
       refine RL.st ?_
       refine NV.p T ?_
       refine RL.st ?_
       refine NV.p T ?_
       refine RL.nil _ _ _ _ ?_
       refine hK6 _ _ _ ?_
       refine SW.cond rfl (fun hc1 => ?_) (fun hc1 => ?_)
       ·try simp only [decide_eq_true_eq, decide_eq_false_iff_not, Bool.not_eq_true', Bool.not_eq_false', Int.not_lt, Int.not_le, Int.toNat_natCast] at hc1
        first
         | (exfalso; clear hK6 K6; clear hK5 K5; clear hK3 K3; clear hK2 K2; clear hK1 K1; clear hK0 K0; first | omega | contradiction)
         | (
          refine SW.seq_k ?_
          intro K8 hK8
          refine SW.region _ _ _ _ ?_
          refine RL.st ?_
          refine NV.p T ?_
          refine RL.st ?_
          refine NV.p T ?_
          refine RL.st ?_
          refine NV.p T ?_
          refine RL.nil _ _ _ _ ?_
          refine hK8 _ _ _ ?_
          refine SW.ret ?_
          refine retQ.ret (H' := H) (RVs.tmp (by conv => lhs; whnf) (RVs.tmp (by conv => lhs; whnf) (RVs.tmp (by conv => lhs; whnf) RVs.nil))) (fun w hw => Sat.sub (by repeat first | exact List.Sublist.refl _ | apply List.Sublist.cons_cons | apply List.Sublist.cons | exact List.sublist_append_right _ _ | refine List.Sublist.trans ?_ (List.sublist_append_right _ _)) hw) ?_
          clear hK8 K8 hK6 K6 hK5 K5 hK3 K3 hK2 K2 hK1 K1 hK0 K0
          exact ⟨rfl, rfl⟩
          )
       ·try simp only [decide_eq_true_eq, decide_eq_false_iff_not, Bool.not_eq_true', Bool.not_eq_false', Int.not_lt, Int.not_le, Int.toNat_natCast] at hc1
        exfalso; clear hK6 K6; clear hK5 K5; clear hK3 K3; clear hK2 K2; clear hK1 K1; clear hK0 K0; first | omega | contradiction
       )
    )
theorem rtake_ok {w0 : World} {H : List Chunk} (sa : Option Addr) (n c : Nat) (es : List Int) (hR : Rd w0 H sa n c 1 (es.map (.int .u8))) (hn : n = es.length) (hm : n ≤ 140737488351232) (m : Int) (hc : chk es = 0) (h0 : 0 ≤ m) (h1 : m ≤ 65536) : SC Try.prog w0 21 #[.slice sa n c, .int .i64 m] H (fun v H' => RV3 w0 H (takeF m [] [] es).1 (takeF m [] [] es).2.1 (takeF m [] [] es).2.2 v H') := by
 refine SC.enter Try.func21 rfl (Nat.le_of_ble_eq_true rfl) ?_
 refine SW.seq_k ?_
 intro K0 hK0
 refine SW.region _ _ _ _ ?_
 refine RL.st ?_
 refine NV.p T ?_
 refine RL.st ?_
 refine NV.p T ?_
 refine RL.st ?_
 refine NV.p T ?_
 refine RL.nil _ _ _ _ ?_
 refine hK0 _ _ _ ?_
 refine SW.seq_k ?_
 intro K1 hK1
 refine SW.seq_k ?_
 intro K2 hK2
 refine SW.region _ _ _ _ ?_
 refine RL.st ?_
 refine NV.p T ?_
 refine RL.st ?_
 refine NV.call rfl rfl rfl fun25 rfl rfl ((rcheck sa n c es hR hn hm).mono (fun v H' h => by rw [hc] at h; exact h)) ?_
 rintro _ _ ⟨rfl, e⟩; obtain rfl := e.symm
 refine RL.st ?_
 refine NV.p T ?_
 refine RL.nil _ _ _ _ ?_
 refine hK2 _ _ _ ?_
 refine SW.seq_k ?_
 intro K3 hK3
 refine SW.region _ _ _ _ ?_
 refine RL.st ?_
 refine NV.p T ?_
 refine RL.st ?_
 refine NV.p T ?_
 refine RL.nil _ _ _ _ ?_
 refine hK3 _ _ _ ?_
 refine SW.cond rfl (fun hc0 => ?_) (fun hc0 => ?_)
 ·try simp only [decide_eq_true_eq, decide_eq_false_iff_not, Bool.not_eq_true', Bool.not_eq_false', Int.not_lt, Int.not_le, Int.toNat_natCast] at hc0
  first
   | (exfalso; clear hK3 K3; clear hK2 K2; clear hK1 K1; clear hK0 K0; first | omega | contradiction)
   | (
    refine SW.seq_k ?_
    intro K4 hK4
    refine SW.region _ _ _ _ ?_
    refine RL.st ?_
    refine NV.p T ?_
    refine RL.st ?_
    refine NV.p T ?_
    refine RL.st ?_
    refine NV.p T ?_
    refine RL.st ?_
    refine NV.p T ?_
    refine RL.nil _ _ _ _ ?_
    refine hK4 _ _ _ ?_
    refine SW.sat (fun hs => ?_)
    refine SW.ret ?_
    refine retQ.ret (RVs.tmp (by conv => lhs; whnf) (RVs.tmp (by conv => lhs; whnf) (RVs.tmp (by conv => lhs; whnf) RVs.nil))) (fun w hw => hw) ?_
    clear hK4 K4 hK3 K3 hK2 K2 hK1 K1 hK0 K0
    first
      | (rw [hI.bad (by omega) (by omega) (by omega) (by omega)]; exact ⟨_, rfl, none, 0, 0, rfl, rfl, Rd.nilS, [_], rfl⟩)
      | (rw [hI.short (by omega) (by omega)]; exact ⟨_, rfl, none, 0, 0, rfl, rfl, Rd.nilS, [_], rfl⟩)
      | (rw [hI.fit (by omega)]; obtain rfl := hL; exact ⟨_, rfl, Res.row hs (At.head _ _) (G := [_]) rfl⟩)
      | (rw [hI.fit (by omega)]; obtain rfl := hL; obtain rfl : k = n := by omega
         exact ⟨_, rfl, Res.row hs (At.head _ _) (G := [_]) rfl⟩)
    )
 ·try simp only [decide_eq_true_eq, decide_eq_false_iff_not, Bool.not_eq_true', Bool.not_eq_false', Int.not_lt, Int.not_le, Int.toNat_natCast] at hc0
  first
   | (exfalso; clear hK3 K3; clear hK2 K2; clear hK1 K1; clear hK0 K0; first | omega | contradiction)
   | (
    refine SW.skip ?_
    refine hK1 _ _ _ ?_
    refine SW.seq_k ?_
    intro K5 hK5
    refine SW.seq_k ?_
    intro K6 hK6
    refine SW.region _ _ _ _ ?_
    refine RL.st ?_
    refine NV.p T ?_
    refine RL.st ?_
    refine NV.p T ?_
    refine RL.st ?_
    refine NV.p T ?_
    refine RL.split 18 rfl (fun hs0 => ?_) (fun hs0 => ?_)
    ·try simp only [decide_eq_true_eq, decide_eq_false_iff_not, Bool.not_eq_true', Bool.not_eq_false', Int.not_lt, Int.not_le, Int.toNat_natCast] at hs0
     first
      | (exfalso; clear hK6 K6; clear hK5 K5; clear hK3 K3; clear hK2 K2; clear hK1 K1; clear hK0 K0; first | omega | contradiction)
      | (
       refine RL.guard_no rfl rfl rfl ?_
       refine RL.guard_no rfl rfl rfl ?_
       refine RL.st ?_
       refine NV.p T ?_
       refine RL.nil _ _ _ _ ?_
       refine hK6 _ _ _ ?_
       refine SW.cond_t rfl ?_
       refine SW.seq_k ?_
       intro K7 hK7
       refine SW.region _ _ _ _ ?_
       refine RL.st ?_
       refine NV.p T ?_
       refine RL.st ?_
       refine NV.p T ?_
       refine RL.st ?_
       refine NV.p T ?_
       refine RL.nil _ _ _ _ ?_
       refine hK7 _ _ _ ?_
       refine SW.sat (fun hs => ?_)
       refine SW.ret ?_
       refine retQ.ret (RVs.tmp (by conv => lhs; whnf) (RVs.tmp (by conv => lhs; whnf) (RVs.tmp (by conv => lhs; whnf) RVs.nil))) (fun w hw => hw) ?_
       clear hK7 K7 hK6 K6 hK5 K5 hK3 K3 hK2 K2 hK1 K1 hK0 K0
       first
         | (rw [hI.bad (by omega) (by omega) (by omega) (by omega)]; exact ⟨_, rfl, none, 0, 0, rfl, rfl, Rd.nilS, [_], rfl⟩)
         | (rw [hI.short (by omega) (by omega)]; exact ⟨_, rfl, none, 0, 0, rfl, rfl, Rd.nilS, [_], rfl⟩)
         | (rw [hI.fit (by omega)]; obtain rfl := hL; exact ⟨_, rfl, Res.row hs (At.head _ _) (G := [_]) rfl⟩)
         | (rw [hI.fit (by omega)]; obtain rfl := hL; obtain rfl : k = n := by omega
            exact ⟨_, rfl, Res.row hs (At.head _ _) (G := [_]) rfl⟩)
       )
    ·try simp only [decide_eq_true_eq, decide_eq_false_iff_not, Bool.not_eq_true', Bool.not_eq_false', Int.not_lt, Int.not_le, Int.toNat_natCast] at hs0
     first
      | (exfalso; clear hK6 K6; clear hK5 K5; clear hK3 K3; clear hK2 K2; clear hK1 K1; clear hK0 K0; first | omega | contradiction)
      | (
       refine RL.st ?_
       refine NV.p T ?_
       refine RL.st ?_
       refine NV.p T ?_
       refine RL.st ?_
       refine NV.p T ?_
       refine RL.nil _ _ _ _ ?_
       refine hK6 _ _ _ ?_
       refine SW.cond rfl (fun hc1 => ?_) (fun hc1 => ?_)
       ·try simp only [decide_eq_true_eq, decide_eq_false_iff_not, Bool.not_eq_true', Bool.not_eq_false', Int.not_lt, Int.not_le, Int.toNat_natCast] at hc1
        first
         | (exfalso; clear hK6 K6; clear hK5 K5; clear hK3 K3; clear hK2 K2; clear hK1 K1; clear hK0 K0; first | omega | contradiction)
         | (
          refine SW.seq_k ?_
          intro K8 hK8
          refine SW.region _ _ _ _ ?_
          refine RL.st ?_
          refine NV.p T ?_
          refine RL.st ?_
          refine NV.p T ?_
          refine RL.st ?_
          refine NV.p T ?_
          refine RL.nil _ _ _ _ ?_
          refine hK8 _ _ _ ?_
          refine SW.sat (fun hs => ?_)
          refine SW.ret ?_
          refine retQ.ret (RVs.tmp (by conv => lhs; whnf) (RVs.tmp (by conv => lhs; whnf) (RVs.tmp (by conv => lhs; whnf) RVs.nil))) (fun w hw => hw) ?_
          clear hK8 K8 hK6 K6 hK5 K5 hK3 K3 hK2 K2 hK1 K1 hK0 K0
          first
            | (rw [hI.bad (by omega) (by omega) (by omega) (by omega)]; exact ⟨_, rfl, none, 0, 0, rfl, rfl, Rd.nilS, [_], rfl⟩)
            | (rw [hI.short (by omega) (by omega)]; exact ⟨_, rfl, none, 0, 0, rfl, rfl, Rd.nilS, [_], rfl⟩)
            | (rw [hI.fit (by omega)]; obtain rfl := hL; exact ⟨_, rfl, Res.row hs (At.head _ _) (G := [_]) rfl⟩)
            | (rw [hI.fit (by omega)]; obtain rfl := hL; obtain rfl : k = n := by omega
               exact ⟨_, rfl, Res.row hs (At.head _ _) (G := [_]) rfl⟩)
          )
       ·try simp only [decide_eq_true_eq, decide_eq_false_iff_not, Bool.not_eq_true', Bool.not_eq_false', Int.not_lt, Int.not_le, Int.toNat_natCast] at hc1
        first
         | (exfalso; clear hK6 K6; clear hK5 K5; clear hK3 K3; clear hK2 K2; clear hK1 K1; clear hK0 K0; first | omega | contradiction)
         | (
          refine SW.skip ?_
          refine hK5 _ _ _ ?_
          refine SW.seq_k ?_
          intro K9 hK9
          refine SW.region _ _ _ _ ?_
          refine RL.nilrow 5 1 ?_
          refine RL.st ?_
          refine NV.p T ?_
          refine RL.nil _ _ _ _ ?_
          refine hK9 _ _ _ ?_
          refine SW.seq_k ?_
          intro K10 hK10
          refine SW.seq_k ?_
          intro K11 hK11
          refine SW.region _ _ _ _ ?_
          refine RL.st ?_
          refine NV.p T ?_
          refine RL.st ?_
          refine NV.p T ?_
          refine RL.st ?_
          refine NV.p T ?_
          refine RL.nil _ _ _ _ ?_
          refine hK11 _ _ _ ?_
          refine SW.block ?_
          refine SW.loopM (fun frB mm fr ds HH => ∃ (k : Nat) (sr : Option Addr) (L cr : Nat) (o : List Int), mm = n - k ∧ (k ≤ n ∧ (L = o.length ∧ KI m es k o)) ∧ FrIs [4, 5, 6, 8, 9, 10, 24, 25, 26, 27, 28, 29, 30, 31, 32, 33, 34, 35, 36, 37, 38, 39, 40, 41, 42, 43, 44, 45, 46, 47, 48, 49, 50, 51] frB fr [(24, .int .i64 k), (8, .slice sr L cr)] ∧ ds = [] ∧ HH = (.row sr L cr 5 1 (o.map (.int .u8)) :: H)) (n := n - 0) ?_ ?_
          ·exact ⟨0, none, 0, 0, [], rfl, ⟨Nat.zero_le _, ⟨rfl, KI.start h0⟩⟩, (.cons rfl (.cons rfl (.nil (by repeat first | exact Mx.refl | exact Mx.mix | refine Mx.put rfl ?_ | refine Mx.upd rfl ?_ | refine Mx.updl rfl ?_ | refine Mx.fin rfl ?_ | refine Mx.inner rfl ?_ | refine Mx.none ?_)))), rfl, rfl⟩
          ·rintro mm fr ds HH ⟨k, sr, L, cr, o, rfl, ⟨hk, ⟨hL, hI⟩⟩, hFr, rfl, eHH⟩
           obtain rfl := eHH.symm
           obtain ⟨frU, rfl⟩ := hFr.eq
           clear hFr
           have hkn := hI.kn
           have hlen := hI.len
           have hon := hI.on
           have h5' := hI.r5
           have hcap := hR.cap
           have hr1 := (st_range (es.take k)).2
           rw [List.length_take] at hr1
           have hla : 0 < k → es.getD (((k : Nat) : Int) - 1).toNat 0 = (st (es.take k)).1 := fun h => by
             rw [st_last _ (by rw [List.length_take]; omega), List.length_take]
             rw [List.getD_eq_getElem?_getD, List.getD_eq_getElem?_getD, List.getElem?_take, if_pos (by omega)]
             congr 2; omega
           refine SW.seq_k ?_
           intro K12 hK12
           refine SW.region _ _ _ _ ?_
           refine RL.st ?_
           refine NV.p T ?_
           refine RL.nil _ _ _ _ ?_
           refine hK12 _ _ _ ?_
           refine SW.seq_k ?_
           intro K13 hK13
           refine SW.cond rfl (fun hc2 => ?_) (fun hc2 => ?_)
           ·try simp only [decide_eq_true_eq, decide_eq_false_iff_not, Bool.not_eq_true', Bool.not_eq_false', Int.not_lt, Int.not_le, Int.toNat_natCast] at hc2
            first
             | (exfalso; clear hK13 K13; clear hK12 K12; clear hK11 K11; clear hK10 K10; clear hK9 K9; clear hK6 K6; clear hK5 K5; clear hK3 K3; clear hK2 K2; clear hK1 K1; clear hK0 K0; first | omega | contradiction)
             | (
              refine SW.skip ?_
              refine hK13 _ _ _ ?_
              refine SW.seq_k ?_
              intro K14 hK14
              refine SW.block ?_
              refine SW.seq_k ?_
              intro K15 hK15
              refine SW.region _ _ _ _ ?_
              refine RL.st ?_
              refine NV.p T ?_
              refine RL.st ?_
              first
                | refine NV.index_array T rfl rfl rfl rfl rfl (by omega) (by omega) ?_
                | refine NV.index_slice T rfl rfl rfl rfl rfl hR.cons (by omega) (by omega) ?_
              refine RL.st ?_
              refine NV.load_elem T rfl rfl rfl rfl hR.cons (by first | exact map_as (by omega) (hla (by omega)) | exact map_get _ _ (by omega)) ?_
              refine RL.st ?_
              refine NV.p T ?_
              refine RL.st ?_
              refine NV.p T ?_
              refine RL.nil _ _ _ _ ?_
              refine hK15 _ _ _ ?_
              refine SW.seq_k ?_
              intro K16 hK16
              refine SW.seq_k ?_
              intro K17 hK17
              refine SW.region _ _ _ _ ?_
              refine RL.st ?_
              refine NV.p T ?_
              refine RL.st ?_
              refine NV.p T ?_
              refine RL.st ?_
              refine NV.p T ?_
              refine RL.st ?_
              refine NV.p T ?_
              refine RL.nil _ _ _ _ ?_
              refine hK17 _ _ _ ?_
              refine SW.cond rfl (fun hc3 => ?_) (fun hc3 => ?_)
              ·try simp only [decide_eq_true_eq, decide_eq_false_iff_not, Bool.not_eq_true', Bool.not_eq_false', Int.not_lt, Int.not_le, Int.toNat_natCast] at hc3
               first
                | (exfalso; clear hK17 K17; clear hK16 K16; clear hK15 K15; clear hK14 K14; clear hK13 K13; clear hK12 K12; clear hK11 K11; clear hK10 K10; clear hK9 K9; clear hK6 K6; clear hK5 K5; clear hK3 K3; clear hK2 K2; clear hK1 K1; clear hK0 K0; first | omega | contradiction)
                | (
                 refine SW.seq_k ?_
                 intro K18 hK18
                 refine SW.region _ _ _ _ ?_
                 refine RL.st ?_
                 refine NV.p T ?_
                 refine RL.st ?_
                 refine NV.p T ?_
                 refine RL.st ?_
                 refine NV.p T ?_
                 refine RL.st ?_
                 refine NV.p T ?_
                 refine RL.st ?_
                 refine NV.p T ?_
                 refine RL.nil _ _ _ _ ?_
                 refine hK18 _ _ _ ?_
                 refine SW.sat (fun hs => ?_)
                 refine SW.ret ?_
                 refine retQ.ret (RVs.tmp (by conv => lhs; whnf) (RVs.tmp (by conv => lhs; whnf) (RVs.tmp (by conv => lhs; whnf) RVs.nil))) (fun w hw => hw) ?_
                 clear hK18 K18 hK17 K17 hK16 K16 hK15 K15 hK14 K14 hK13 K13 hK12 K12 hK11 K11 hK10 K10 hK9 K9 hK6 K6 hK5 K5 hK3 K3 hK2 K2 hK1 K1 hK0 K0
                 first
                   | (rw [hI.bad (by omega) (by omega) (by omega) (by omega)]; exact ⟨_, rfl, none, 0, 0, rfl, rfl, Rd.nilS, [_], rfl⟩)
                   | (rw [hI.short (by omega) (by omega)]; exact ⟨_, rfl, none, 0, 0, rfl, rfl, Rd.nilS, [_], rfl⟩)
                   | (rw [hI.fit (by omega)]; obtain rfl := hL; exact ⟨_, rfl, Res.row hs (At.head _ _) (G := [_]) rfl⟩)
                   | (rw [hI.fit (by omega)]; obtain rfl := hL; obtain rfl : k = n := by omega
                      exact ⟨_, rfl, Res.row hs (At.head _ _) (G := [_]) rfl⟩)
                 )
              ·try simp only [decide_eq_true_eq, decide_eq_false_iff_not, Bool.not_eq_true', Bool.not_eq_false', Int.not_lt, Int.not_le, Int.toNat_natCast] at hc3
               first
                | (exfalso; clear hK17 K17; clear hK16 K16; clear hK15 K15; clear hK14 K14; clear hK13 K13; clear hK12 K12; clear hK11 K11; clear hK10 K10; clear hK9 K9; clear hK6 K6; clear hK5 K5; clear hK3 K3; clear hK2 K2; clear hK1 K1; clear hK0 K0; first | omega | contradiction)
                | (
                 refine SW.skip ?_
                 refine hK16 _ _ _ ?_
                 refine SW.seq_k ?_
                 intro K19 hK19
                 refine SW.region _ _ _ _ ?_
                 refine RL.st ?_
                 refine NV.p T ?_
                 refine RL.st ?_
                 refine NV.p T ?_
                 refine RL.st ?_
                 refine NV.slice (h := k) T rfl rfl rfl rfl rfl ⟨_, rfl⟩ (by omega) (by omega) ?_
                 refine RL.st ?_
                 refine NV.call rfl rfl rfl fun34 rfl rfl ((rfull _ (k - 0) (c - 0) (es.take k) ((hR.cons.sub (l := 0) (h := k) (by omega) (by omega)).as (by simp [List.map_take])) (by simp; omega) (by omega)).mono (fun v H' h => by rw [full5_st] at h; exact h)) ?_
                 rintro _ _ ⟨rfl, e⟩; obtain rfl := e.symm
                 refine RL.st ?_
                 refine NV.p T ?_
                 refine RL.nil _ _ _ _ ?_
                 refine hK19 _ _ _ ?_
                 refine SW.cond rfl (fun hc4 => ?_) (fun hc4 => ?_)
                 ·try simp only [decide_eq_true_eq, decide_eq_false_iff_not, Bool.not_eq_true', Bool.not_eq_false', Int.not_lt, Int.not_le, Int.toNat_natCast] at hc4
                  first
                   | (exfalso; clear hK19 K19; clear hK17 K17; clear hK16 K16; clear hK15 K15; clear hK14 K14; clear hK13 K13; clear hK12 K12; clear hK11 K11; clear hK10 K10; clear hK9 K9; clear hK6 K6; clear hK5 K5; clear hK3 K3; clear hK2 K2; clear hK1 K1; clear hK0 K0; first | omega | contradiction)
                   | (
                    refine SW.region _ _ _ _ ?_
                    refine RL.st ?_
                    refine NV.p T ?_
                    refine RL.st ?_
                    refine NV.p T ?_
                    refine RL.st ?_
                    refine NV.build1 T rfl (by conv => lhs; whnf) rfl rfl (by conv => lhs; whnf) (by exact (rfl : _ = some [_])) ?_
                    intro b42_0
                    refine RL.st ?_
                    first
                      | refine NV.append1 T rfl rfl rfl rfl rfl rfl rfl rfl rfl rfl (by repeat first | exact At.head _ _ | assumption | exact At.put (by assumption) _ | apply At.tail | apply At.app) (ones rfl) (by first | omega | (unfold maxLen; omega)) (by first | omega | (show (_ + _) * 1 ≤ 140737488355328; omega)) ?_
                      | refine NV.append T rfl rfl rfl rfl rfl rfl rfl rfl rfl rfl (by repeat first | exact At.head _ _ | assumption | exact At.put (by assumption) _ | apply At.tail | apply At.app) (by assumption) (ones rfl) (by first | omega | (unfold maxLen; omega)) (by first | omega | (show (_ + _) * 1 ≤ 140737488355328; omega)) ?_
                    intro a0_ c0_
                    refine RL.st ?_
                    refine NV.p T ?_
                    refine RL.nil _ _ _ _ ?_
                    refine hK14 _ _ _ ?_
                    refine SW.region _ _ _ _ ?_
                    refine RL.st ?_
                    first | refine NV.arith rfl rfl rfl rfl (by omega) (by omega) ?_ | refine NV.p T ?_
                    refine RL.st ?_
                    refine NV.p T ?_
                    refine RL.nil _ _ _ _ ?_
                    first
                      | exact ⟨n - (k + 1), (by omega), k + 1, _, _, _, o, (by rfl), ⟨by omega, ⟨by assumption, hI.stuff (by omega) (by omega) (by omega) (by omega)⟩⟩, (.cons rfl (.cons rfl (.nil (by repeat first | exact Mx.refl | exact Mx.mix | refine Mx.put rfl ?_ | refine Mx.upd rfl ?_ | refine Mx.updl rfl ?_ | refine Mx.fin rfl ?_ | refine Mx.inner rfl ?_ | refine Mx.none ?_)))), rfl, rfl⟩
                      | exact ⟨n - (k + 1), (by omega), k + 1, _, _, _, o ++ [es.getD k 0], (by rfl), ⟨by omega, ⟨by simp; omega, hI.see (by omega) (by omega) (by omega)⟩⟩, (.cons rfl (.cons rfl (.nil (by repeat first | exact Mx.refl | exact Mx.mix | refine Mx.put rfl ?_ | refine Mx.upd rfl ?_ | refine Mx.updl rfl ?_ | refine Mx.fin rfl ?_ | refine Mx.inner rfl ?_ | refine Mx.none ?_)))), rfl, (by simp)⟩
                    )
                 ·try simp only [decide_eq_true_eq, decide_eq_false_iff_not, Bool.not_eq_true', Bool.not_eq_false', Int.not_lt, Int.not_le, Int.toNat_natCast] at hc4
                  first
                   | (exfalso; clear hK19 K19; clear hK17 K17; clear hK16 K16; clear hK15 K15; clear hK14 K14; clear hK13 K13; clear hK12 K12; clear hK11 K11; clear hK10 K10; clear hK9 K9; clear hK6 K6; clear hK5 K5; clear hK3 K3; clear hK2 K2; clear hK1 K1; clear hK0 K0; first | omega | contradiction)
                   | (
                    refine SW.seq_k ?_
                    intro K20 hK20
                    refine SW.region _ _ _ _ ?_
                    refine RL.st ?_
                    refine NV.p T ?_
                    refine RL.st ?_
                    refine NV.p T ?_
                    refine RL.st ?_
                    refine NV.p T ?_
                    refine RL.st ?_
                    first | refine NV.arith rfl rfl rfl rfl (by omega) (by omega) ?_ | refine NV.p T ?_
                    refine RL.st ?_
                    first
                      | refine NV.index_array T rfl rfl rfl rfl rfl (by omega) (by omega) ?_
                      | refine NV.index_slice T rfl rfl rfl rfl rfl hR.cons (by omega) (by omega) ?_
                    refine RL.st ?_
                    refine NV.load_elem T rfl rfl rfl rfl hR.cons (by first | exact map_as (by omega) (hla (by omega)) | exact map_get _ _ (by omega)) ?_
                    refine RL.st ?_
                    refine NV.p T ?_
                    refine RL.nil _ _ _ _ ?_
                    refine hK20 _ _ _ ?_
                    refine SW.cond rfl (fun hc5 => ?_) (fun hc5 => ?_)
                    ·try simp only [decide_eq_true_eq, decide_eq_false_iff_not, Bool.not_eq_true', Bool.not_eq_false', Int.not_lt, Int.not_le, Int.toNat_natCast] at hc5
                     first
                      | (exfalso; clear hK20 K20; clear hK19 K19; clear hK17 K17; clear hK16 K16; clear hK15 K15; clear hK14 K14; clear hK13 K13; clear hK12 K12; clear hK11 K11; clear hK10 K10; clear hK9 K9; clear hK6 K6; clear hK5 K5; clear hK3 K3; clear hK2 K2; clear hK1 K1; clear hK0 K0; first | omega | contradiction)
                      | (
                       refine SW.seq_k ?_
                       intro K21 hK21
                       refine SW.region _ _ _ _ ?_
                       refine RL.st ?_
                       refine NV.p T ?_
                       refine RL.st ?_
                       refine NV.p T ?_
                       refine RL.st ?_
                       refine NV.p T ?_
                       refine RL.nil _ _ _ _ ?_
                       refine hK21 _ _ _ ?_
                       refine SW.sat (fun hs => ?_)
                       refine SW.ret ?_
                       refine retQ.ret (RVs.tmp (by conv => lhs; whnf) (RVs.tmp (by conv => lhs; whnf) (RVs.tmp (by conv => lhs; whnf) RVs.nil))) (fun w hw => hw) ?_
                       clear hK21 K21 hK20 K20 hK19 K19 hK17 K17 hK16 K16 hK15 K15 hK14 K14 hK13 K13 hK12 K12 hK11 K11 hK10 K10 hK9 K9 hK6 K6 hK5 K5 hK3 K3 hK2 K2 hK1 K1 hK0 K0
                       first
                         | (rw [hI.bad (by omega) (by omega) (by omega) (by omega)]; exact ⟨_, rfl, none, 0, 0, rfl, rfl, Rd.nilS, [_], rfl⟩)
                         | (rw [hI.short (by omega) (by omega)]; exact ⟨_, rfl, none, 0, 0, rfl, rfl, Rd.nilS, [_], rfl⟩)
                         | (rw [hI.fit (by omega)]; obtain rfl := hL; exact ⟨_, rfl, Res.row hs (At.head _ _) (G := [_]) rfl⟩)
                         | (rw [hI.fit (by omega)]; obtain rfl := hL; obtain rfl : k = n := by omega
                            exact ⟨_, rfl, Res.row hs (At.head _ _) (G := [_]) rfl⟩)
                       )
                    ·try simp only [decide_eq_true_eq, decide_eq_false_iff_not, Bool.not_eq_true', Bool.not_eq_false', Int.not_lt, Int.not_le, Int.toNat_natCast] at hc5
                     first
                      | (exfalso; clear hK20 K20; clear hK19 K19; clear hK17 K17; clear hK16 K16; clear hK15 K15; clear hK14 K14; clear hK13 K13; clear hK12 K12; clear hK11 K11; clear hK10 K10; clear hK9 K9; clear hK6 K6; clear hK5 K5; clear hK3 K3; clear hK2 K2; clear hK1 K1; clear hK0 K0; first | omega | contradiction)
                      | (
                       refine SW.skip ?_
                       refine hK14 _ _ _ ?_
                       refine SW.region _ _ _ _ ?_
                       refine RL.st ?_
                       first | refine NV.arith rfl rfl rfl rfl (by omega) (by omega) ?_ | refine NV.p T ?_
                       refine RL.st ?_
                       refine NV.p T ?_
                       refine RL.nil _ _ _ _ ?_
                       first
                         | exact ⟨n - (k + 1), (by omega), k + 1, _, _, _, o, (by rfl), ⟨by omega, ⟨by assumption, hI.stuff (by omega) (by omega) (by omega) (by omega)⟩⟩, (.cons rfl (.cons rfl (.nil (by repeat first | exact Mx.refl | exact Mx.mix | refine Mx.put rfl ?_ | refine Mx.upd rfl ?_ | refine Mx.updl rfl ?_ | refine Mx.fin rfl ?_ | refine Mx.inner rfl ?_ | refine Mx.none ?_)))), rfl, rfl⟩
                         | exact ⟨n - (k + 1), (by omega), k + 1, _, _, _, o ++ [es.getD k 0], (by rfl), ⟨by omega, ⟨by simp; omega, hI.see (by omega) (by omega) (by omega)⟩⟩, (.cons rfl (.cons rfl (.nil (by repeat first | exact Mx.refl | exact Mx.mix | refine Mx.put rfl ?_ | refine Mx.upd rfl ?_ | refine Mx.updl rfl ?_ | refine Mx.fin rfl ?_ | refine Mx.inner rfl ?_ | refine Mx.none ?_)))), rfl, (by simp)⟩
                       )
                    )
                 )
              )
           ·try simp only [decide_eq_true_eq, decide_eq_false_iff_not, Bool.not_eq_true', Bool.not_eq_false', Int.not_lt, Int.not_le, Int.toNat_natCast] at hc2
            first
             | (exfalso; clear hK13 K13; clear hK12 K12; clear hK11 K11; clear hK10 K10; clear hK9 K9; clear hK6 K6; clear hK5 K5; clear hK3 K3; clear hK2 K2; clear hK1 K1; clear hK0 K0; first | omega | contradiction)
             | (
              refine SW.exit ?_
              refine hK10 _ _ _ ?_
              refine SW.seq_k ?_
              intro K22 hK22
              refine SW.seq_k ?_
              intro K23 hK23
              refine SW.region _ _ _ _ ?_
              refine RL.st ?_
              refine NV.p T ?_
              refine RL.st ?_
              refine NV.p T ?_
              refine RL.st ?_
              refine NV.p T ?_
              refine RL.st ?_
              refine NV.p T ?_
              refine RL.nil _ _ _ _ ?_
              refine hK23 _ _ _ ?_
              refine SW.cond rfl (fun hc6 => ?_) (fun hc6 => ?_)
              ·try simp only [decide_eq_true_eq, decide_eq_false_iff_not, Bool.not_eq_true', Bool.not_eq_false', Int.not_lt, Int.not_le, Int.toNat_natCast] at hc6
               first
                | (exfalso; clear hK23 K23; clear hK22 K22; clear hK13 K13; clear hK12 K12; clear hK11 K11; clear hK10 K10; clear hK9 K9; clear hK6 K6; clear hK5 K5; clear hK3 K3; clear hK2 K2; clear hK1 K1; clear hK0 K0; first | omega | contradiction)
                | (
                 refine SW.seq_k ?_
                 intro K24 hK24
                 refine SW.region _ _ _ _ ?_
                 refine RL.st ?_
                 refine NV.p T ?_
                 refine RL.st ?_
                 refine NV.p T ?_
                 refine RL.st ?_
                 refine NV.p T ?_
                 refine RL.nil _ _ _ _ ?_
                 refine hK24 _ _ _ ?_
                 refine SW.sat (fun hs => ?_)
                 refine SW.ret ?_
                 refine retQ.ret (RVs.tmp (by conv => lhs; whnf) (RVs.tmp (by conv => lhs; whnf) (RVs.tmp (by conv => lhs; whnf) RVs.nil))) (fun w hw => hw) ?_
                 clear hK24 K24 hK23 K23 hK22 K22 hK13 K13 hK12 K12 hK11 K11 hK10 K10 hK9 K9 hK6 K6 hK5 K5 hK3 K3 hK2 K2 hK1 K1 hK0 K0
                 first
                   | (rw [hI.bad (by omega) (by omega) (by omega) (by omega)]; exact ⟨_, rfl, none, 0, 0, rfl, rfl, Rd.nilS, [_], rfl⟩)
                   | (rw [hI.short (by omega) (by omega)]; exact ⟨_, rfl, none, 0, 0, rfl, rfl, Rd.nilS, [_], rfl⟩)
                   | (rw [hI.fit (by omega)]; obtain rfl := hL; exact ⟨_, rfl, Res.row hs (At.head _ _) (G := [_]) rfl⟩)
                   | (rw [hI.fit (by omega)]; obtain rfl := hL; obtain rfl : k = n := by omega
                      exact ⟨_, rfl, Res.row hs (At.head _ _) (G := [_]) rfl⟩)
                 )
              ·try simp only [decide_eq_true_eq, decide_eq_false_iff_not, Bool.not_eq_true', Bool.not_eq_false', Int.not_lt, Int.not_le, Int.toNat_natCast] at hc6
               first
                | (exfalso; clear hK23 K23; clear hK22 K22; clear hK13 K13; clear hK12 K12; clear hK11 K11; clear hK10 K10; clear hK9 K9; clear hK6 K6; clear hK5 K5; clear hK3 K3; clear hK2 K2; clear hK1 K1; clear hK0 K0; first | omega | contradiction)
                | (
                 refine SW.skip ?_
                 refine hK22 _ _ _ ?_
                 refine SW.seq_k ?_
                 intro K25 hK25
                 refine SW.region _ _ _ _ ?_
                 refine RL.st ?_
                 refine NV.p T ?_
                 refine RL.st ?_
                 refine NV.p T ?_
                 refine RL.st ?_
                 refine NV.p T ?_
                 refine RL.st ?_
                 refine NV.p T ?_
                 refine RL.st ?_
                 refine NV.p T ?_
                 refine RL.st ?_
                 refine NV.p T ?_
                 refine RL.nil _ _ _ _ ?_
                 refine hK25 _ _ _ ?_
                 refine SW.sat (fun hs => ?_)
                 refine SW.ret ?_
                 refine retQ.ret (RVs.tmp (by conv => lhs; whnf) (RVs.tmp (by conv => lhs; whnf) (RVs.tmp (by conv => lhs; whnf) RVs.nil))) (fun w hw => hw) ?_
                 clear hK25 K25 hK23 K23 hK22 K22 hK13 K13 hK12 K12 hK11 K11 hK10 K10 hK9 K9 hK6 K6 hK5 K5 hK3 K3 hK2 K2 hK1 K1 hK0 K0
                 first
                   | (rw [hI.bad (by omega) (by omega) (by omega) (by omega)]; exact ⟨_, rfl, none, 0, 0, rfl, rfl, Rd.nilS, [_], rfl⟩)
                   | (rw [hI.short (by omega) (by omega)]; exact ⟨_, rfl, none, 0, 0, rfl, rfl, Rd.nilS, [_], rfl⟩)
                   | (rw [hI.fit (by omega)]; obtain rfl := hL; exact ⟨_, rfl, Res.row hs (At.head _ _) (G := [_]) rfl⟩)
                   | (rw [hI.fit (by omega)]; obtain rfl := hL; obtain rfl : k = n := by omega
                      exact ⟨_, rfl, Res.row hs (At.head _ _) (G := [_]) rfl⟩)
                 )
              )
          )
       )
    )
theorem rTake {w0 : World} {H : List Chunk} (sa : Option Addr) (n c : Nat) (es : List Int) (hR : Rd w0 H sa n c 1 (es.map (.int .u8))) (hn : n = es.length) (hm : n ≤ 140737488351232) (m : Int) : SC Try.prog w0 21 #[.slice sa n c, .int .i64 m] H (fun v H' => RV3 w0 H (takeV es m).1 (takeV es m).2.1 (takeV es m).2.2 v H') := by
  have no : ∀ (v : Value) (H' : List Chunk), v = .tuple #[.slice none 0 0, .int .i64 0, .int .i64 2] ∧ H' = H → RV3 w0 H [] 0 2 v H' := by rintro _ _ ⟨rfl, rfl⟩; exact ⟨_, rfl, Res.nil⟩
  by_cases hc : chk es = 0
  · by_cases h : 0 ≤ m ∧ m ≤ 65536
    · have e : takeV es m = takeF m [] [] es := by unfold takeV; rw [if_pos hc, if_pos h]
      rw [e]; exact rtake_ok sa n c es hR hn hm m hc h.1 h.2
    · have e : takeV es m = ([], 0, 2) := by unfold takeV; rw [if_pos hc, if_neg h]
      rw [e]; exact (rtake_arg sa n c es hR hn hm m hc (by omega)).mono no
  · have e : takeV es m = ([], 0, 2) := if_neg hc
    rw [e]; exact (rtake_bad sa n c es hR hn hm m ((chk_or es).resolve_left hc)).mono no
theorem read_take {w0 : World} {H : List Chunk} (bt bo bm : Nat) (sa : Option Addr) (n c : Nat) (es : List Int) (hR : Rd w0 H sa n c 1 (es.map (.int .u8))) (hn : n = es.length) (hm : n ≤ 140737488351232) (m : Int) (h0 : 0 < m) (h1 : m ≤ 65536) : SC Try.prog w0 32 #[.slice sa n c, .func (.func 33) #[] #[.pointer (some ⟨bo, 0, none⟩), .pointer (some ⟨bt, 0, none⟩), .pointer (some ⟨bm, 0, none⟩)]] (.row none 0 0 5 1 (([] : List Int).map (.int .u8)) :: .var bt 3 [.int .i64 0] :: .var bo 22 [.slice none 0 0] :: .var bm 3 [.int .i64 m] :: H) (fun v H' => ∃ (e : Int) (sr : Option Addr) (L cr : Nat) (o : List Int) (tk : Int), v = .int .i64 e ∧ L = o.length ∧ H' = (.row sr L cr 5 1 (o.map (.int .u8)) :: .var bt 3 [.int .i64 tk] :: .var bo 22 [.slice sr L cr] :: .var bm 3 [.int .i64 m] :: H) ∧ ((e = 4 ∧ takeF m [] [] es = ([], 0, 4)) ∨ (e = 0 ∧ (o.length : Int) < m ∧ takeF m [] [] es = ([], 0, 3)) ∨ (e = 0 ∧ (o.length : Int) = m ∧ takeF m [] [] es = (o, tk, 0)))) := by
 refine SC.enter Try.func32 rfl (Nat.le_of_ble_eq_true rfl) ?_
 refine SW.seq_k ?_
 intro K0 hK0
 refine SW.region _ _ _ _ ?_
 refine RL.st ?_
 refine NV.p T ?_
 refine RL.nil _ _ _ _ ?_
 refine hK0 _ _ _ ?_
 refine SW.seq_k ?_
 intro K1 hK1
 refine SW.region _ _ _ _ ?_
 refine RL.st ?_
 refine NV.alloc T rfl rfl rfl (by exact (rfl : _ = [_, _])) ?_
 intro b5_0
 refine RL.nil _ _ _ _ ?_
 refine hK1 _ _ _ ?_
 refine SW.seq_k ?_
 intro K2 hK2
 refine SW.seq_k ?_
 intro K3 hK3
 refine SW.region _ _ _ _ ?_
 refine RL.st ?_
 refine NV.p T ?_
 refine RL.st ?_
 refine NV.p T ?_
 refine RL.st ?_
 refine NV.p T ?_
 refine RL.nil _ _ _ _ ?_
 refine hK3 _ _ _ ?_
 refine SW.block ?_
 refine SW.loopM (fun frB mm fr ds HH => ∃ (k : Nat) (sr : Option Addr) (L cr : Nat) (o : List Int) (tk : Int), mm = n - k ∧ (k ≤ n ∧ (L = o.length ∧ KI m es k o ∧ (o.length : Int) < m)) ∧ FrIs [4, 6, 7, 8, 11, 12, 13, 14, 15, 16, 17, 18, 19, 20, 21, 22, 23, 24, 25, 26, 27, 28, 29, 30, 31, 32] frB fr [(11, .int .i64 k)] ∧ ds = [] ∧ HH = (.var b5_0 40 [.int .u8 (st (es.take k)).1, .int .i64 (st (es.take k)).2] :: .row sr L cr 5 1 (o.map (.int .u8)) :: .var bt 3 [.int .i64 tk] :: .var bo 22 [.slice sr L cr] :: .var bm 3 [.int .i64 m] :: H)) (n := n - 0) ?_ ?_
 ·exact ⟨0, none, 0, 0, [], 0, rfl, ⟨Nat.zero_le _, ⟨rfl, KI.start (by omega), by simpa using h0⟩⟩, (.cons rfl (.nil (by repeat first | exact Mx.refl | exact Mx.mix | refine Mx.put rfl ?_ | refine Mx.upd rfl ?_ | refine Mx.updl rfl ?_ | refine Mx.fin rfl ?_ | refine Mx.inner rfl ?_ | refine Mx.none ?_))), rfl, rfl⟩
 ·rintro mm fr ds HH ⟨k, sr, L, cr, o, tk, rfl, ⟨hk, ⟨hL, hI, hlt⟩⟩, hFr, rfl, eHH⟩
  obtain rfl := eHH.symm
  obtain ⟨frU, rfl⟩ := hFr.eq
  clear hFr
  have hkn := hI.kn
  have hlen := hI.len
  have h5' := hI.r5
  have hr0 := (st_range (es.take k)).1
  refine SW.seq_k ?_
  intro K4 hK4
  refine SW.region _ _ _ _ ?_
  refine RL.st ?_
  refine NV.p T ?_
  refine RL.nil _ _ _ _ ?_
  refine hK4 _ _ _ ?_
  refine SW.seq_k ?_
  intro K5 hK5
  refine SW.cond rfl (fun hc0 => ?_) (fun hc0 => ?_)
  ·try simp only [decide_eq_true_eq, decide_eq_false_iff_not, Bool.not_eq_true', Bool.not_eq_false', Int.not_lt, Int.not_le, Int.toNat_natCast] at hc0
   first
    | (exfalso; clear hK5 K5; clear hK4 K4; clear hK3 K3; clear hK2 K2; clear hK1 K1; clear hK0 K0; first | omega | contradiction)
    | (
     refine SW.skip ?_
     refine hK5 _ _ _ ?_
     refine SW.seq_k ?_
     intro K6 hK6
     refine SW.block ?_
     refine SW.seq_k ?_
     intro K7 hK7
     refine SW.region _ _ _ _ ?_
     refine RL.st ?_
     refine NV.p T ?_
     refine RL.st ?_
     first
       | refine NV.index_array T rfl rfl rfl rfl rfl (by omega) (by omega) ?_
       | refine NV.index_slice T rfl rfl rfl rfl rfl (by repeat first | exact hR | apply Rd.cons | apply Rd.app) (by omega) (by omega) ?_
     refine RL.st ?_
     refine NV.load_elem T rfl rfl rfl rfl (by repeat first | exact hR | apply Rd.cons | apply Rd.app) (by first | exact map_get _ _ (by omega) | assumption) ?_
     refine RL.st ?_
     refine NV.p T ?_
     refine RL.st ?_
     refine NV.p T ?_
     refine RL.nil _ _ _ _ ?_
     refine hK7 _ _ _ ?_
     refine SW.seq_k ?_
     intro K8 hK8
     refine SW.region _ _ _ _ ?_
     refine RL.st ?_
     refine NV.call rfl rfl rfl fun23 rfl rfl (sfull b5_0 _ _ _ (by repeat first | exact At.head _ _ | apply At.tail | apply At.app)) ?_
     rintro _ _ ⟨rfl, e⟩; obtain rfl := e.symm
     refine RL.st ?_
     refine NV.p T ?_
     refine RL.nil _ _ _ _ ?_
     refine hK8 _ _ _ ?_
     refine SW.seq_k ?_
     intro K9 hK9
     refine SW.seq_k ?_
     intro K10 hK10
     refine SW.region _ _ _ _ ?_
     refine RL.st ?_
     refine NV.p T ?_
     refine RL.st ?_
     refine NV.p T ?_
     refine RL.split 18 rfl (fun hs0 => ?_) (fun hs0 => ?_)
     ·try simp only [decide_eq_true_eq, decide_eq_false_iff_not, Bool.not_eq_true', Bool.not_eq_false', Int.not_lt, Int.not_le, Int.toNat_natCast] at hs0
      first
       | (exfalso; clear hK10 K10; clear hK9 K9; clear hK8 K8; clear hK7 K7; clear hK6 K6; clear hK5 K5; clear hK4 K4; clear hK3 K3; clear hK2 K2; clear hK1 K1; clear hK0 K0; first | omega | contradiction)
       | (
        refine RL.st ?_
        refine NV.p T ?_
        refine RL.st ?_
        refine NV.p T ?_
        refine RL.st ?_
        refine NV.lv1 T ?_
        refine RL.st ?_
        refine NV.p T ?_
        refine RL.st ?_
        refine NV.p T ?_
        refine RL.nil _ _ _ _ ?_
        refine hK10 _ _ _ ?_
        refine SW.cond rfl (fun hc1 => ?_) (fun hc1 => ?_)
        ·try simp only [decide_eq_true_eq, decide_eq_false_iff_not, Bool.not_eq_true', Bool.not_eq_false', Int.not_lt, Int.not_le, Int.toNat_natCast] at hc1
         first
          | (exfalso; clear hK10 K10; clear hK9 K9; clear hK8 K8; clear hK7 K7; clear hK6 K6; clear hK5 K5; clear hK4 K4; clear hK3 K3; clear hK2 K2; clear hK1 K1; clear hK0 K0; first | omega | contradiction)
          | (
           refine SW.seq_k ?_
           intro K11 hK11
           refine SW.region _ _ _ _ ?_
           refine RL.st ?_
           refine NV.p T ?_
           refine RL.nil _ _ _ _ ?_
           refine hK11 _ _ _ ?_
           refine SW.ret ?_
           refine retQ.ret (H' := _) (RVs.tmp (by conv => lhs; whnf) RVs.nil) (fun w hw => Sat.sub (by first | exact List.sublist_cons_self _ _) hw) ?_
           clear hK11 K11 hK10 K10 hK9 K9 hK8 K8 hK7 K7 hK6 K6 hK5 K5 hK4 K4 hK3 K3 hK2 K2 hK1 K1 hK0 K0
           first
             | (exact ⟨0, ai1_0_, L + 1, ci1_0_, o ++ [es.getD k 0], k + 1, rfl, by simp; omega, by simp, .inr (.inr ⟨rfl, by simp; omega, ((hI.see (by omega) (by omega) (by omega)).fit (by simp; omega)).trans (by simp)⟩)⟩)
             | (exact ⟨0, ai2_0_, L + 1, ci2_0_, o ++ [es.getD k 0], k + 1, rfl, by simp; omega, by simp, .inr (.inr ⟨rfl, by simp; omega, ((hI.see (by omega) (by omega) (by omega)).fit (by simp; omega)).trans (by simp)⟩)⟩)
             | (exact ⟨0, ai3_0_, L + 1, ci3_0_, o ++ [es.getD k 0], k + 1, rfl, by simp; omega, by simp, .inr (.inr ⟨rfl, by simp; omega, ((hI.see (by omega) (by omega) (by omega)).fit (by simp; omega)).trans (by simp)⟩)⟩)
             | (exact ⟨4, sr, L, cr, o, tk, rfl, hL, rfl, .inl ⟨rfl, hI.bad (by omega) (by omega) (by omega) (by omega)⟩⟩)
             | (exact ⟨0, sr, L, cr, o, tk, rfl, hL, rfl, .inr (.inl ⟨rfl, hlt, hI.short (by omega) hlt⟩)⟩)
           )
        ·try simp only [decide_eq_true_eq, decide_eq_false_iff_not, Bool.not_eq_true', Bool.not_eq_false', Int.not_lt, Int.not_le, Int.toNat_natCast] at hc1
         first
          | (exfalso; clear hK10 K10; clear hK9 K9; clear hK8 K8; clear hK7 K7; clear hK6 K6; clear hK5 K5; clear hK4 K4; clear hK3 K3; clear hK2 K2; clear hK1 K1; clear hK0 K0; first | omega | contradiction)
          | (
           refine SW.skip ?_
           refine hK9 _ _ _ ?_
           refine SW.seq_k ?_
           intro K12 hK12
           refine SW.region _ _ _ _ ?_
           refine RL.st ?_
           refine NV.p T ?_
           refine RL.st ?_
           refine NV.call rfl rfl rfl fun24 rfl rfl (ssee b5_0 _ _ (es.getD k 0) (by omega) (by omega) _ (by repeat first | exact At.head _ _ | apply At.tail | apply At.app)) ?_
           rintro _ _ e; obtain rfl := e.symm
           refine RL.nil _ _ _ _ ?_
           refine hK12 _ _ _ ?_
           refine SW.seq_k ?_
           intro K13 hK13
           refine SW.region _ _ _ _ ?_
           refine RL.st ?_
           refine NV.p T ?_
           refine RL.st ?_
           refine NV.p T ?_
           refine RL.st ?_
           refine NV.p T ?_
           refine RL.st ?_
           refine NV.p T ?_
           refine RL.st ?_
           refine NV.call rfl rfl rfl fun33 rfl rfl (SC.enter Try.func33 rfl (Nat.le_of_ble_eq_true rfl) ?_) (fun _ _ h => h)
           refine SW.seq_k ?_
           intro Ki1_0 hKi1_0
           refine SW.region _ _ _ _ ?_
           refine RL.st ?_
           refine NV.p T ?_
           refine RL.nil _ _ _ _ ?_
           refine hKi1_0 _ _ _ ?_
           refine SW.seq_k ?_
           intro Ki1_1 hKi1_1
           refine SW.seq_k ?_
           intro Ki1_2 hKi1_2
           refine SW.region _ _ _ _ ?_
           refine RL.st ?_
           refine NV.p T ?_
           refine RL.st ?_
           refine NV.p T ?_
           refine RL.nil _ _ _ _ ?_
           refine hKi1_2 _ _ _ ?_
           refine SW.cond rfl (fun hci1_0 => ?_) (fun hci1_0 => ?_)
           ·try simp only [decide_eq_true_eq, decide_eq_false_iff_not, Bool.not_eq_true', Bool.not_eq_false', Int.not_lt, Int.not_le, Int.toNat_natCast] at hci1_0
            first
             | (exfalso; clear hKi1_2 Ki1_2; clear hKi1_1 Ki1_1; clear hKi1_0 Ki1_0; first | omega | contradiction)
             | (
              refine SW.region _ _ _ _ ?_
              refine RL.st ?_
              first
                | refine NV.lv1 T ?_
                | refine NV.load_elem T rfl rfl rfl rfl (by repeat first | exact hR | apply Rd.cons | apply Rd.app) (by first | exact map_get _ _ (by omega) | assumption) ?_
              refine RL.st ?_
              refine NV.p T ?_
              refine RL.st ?_
              refine NV.build1 T rfl (by conv => lhs; whnf) rfl rfl (by conv => lhs; whnf) (by exact (rfl : _ = some [_])) ?_
              intro b14_i1_0
              refine RL.st ?_
              first
                | refine NV.append1 T rfl rfl rfl rfl rfl rfl rfl rfl rfl rfl (by repeat first | exact At.head _ _ | assumption | exact At.put (by assumption) _ | apply At.tail | apply At.app) (ones rfl) (by first | omega | (unfold maxLen; omega)) (by first | omega | (show (_ + _) * 1 ≤ 140737488355328; omega)) ?_
                | refine NV.append T rfl rfl rfl rfl rfl rfl rfl rfl rfl rfl (by repeat first | exact At.head _ _ | assumption | exact At.put (by assumption) _ | apply At.tail | apply At.app) (by assumption) (ones rfl) (by first | omega | (unfold maxLen; omega)) (by first | omega | (show (_ + _) * 1 ≤ 140737488355328; omega)) ?_
              intro ai1_0_ ci1_0_
              refine RL.st ?_
              refine NV.p T ?_
              refine RL.st ?_
              first | refine NV.arith rfl rfl rfl rfl (by omega) (by omega) ?_ | refine NV.p T ?_
              refine RL.st ?_
              first
                | refine NV.store_var1 T rfl rfl rfl rfl (by conv => lhs; whnf) rfl (by repeat first | exact At.head _ _ | assumption | exact At.put (by assumption) _ | apply At.tail | apply At.app) rfl rfl ?_
                | refine NV.store_var T rfl rfl rfl (by exact (rfl : _ = [_])) rfl rfl (by repeat first | exact At.head _ _ | assumption | exact At.put (by assumption) _ | apply At.tail | apply At.app) (Nat.le_of_ble_eq_true rfl) rfl ?_
                | refine NV.store_elem T rfl rfl rfl rfl (by conv => lhs; whnf) rfl (by repeat first | exact At.head _ _ | assumption | exact At.put (by assumption) _ | apply At.tail | apply At.app) (by omega) ?_
              refine RL.st ?_
              first
                | refine NV.store_var1 T rfl rfl rfl rfl (by conv => lhs; whnf) rfl (by repeat first | exact At.head _ _ | assumption | exact At.put (by assumption) _ | apply At.tail | apply At.app) rfl rfl ?_
                | refine NV.store_var T rfl rfl rfl (by exact (rfl : _ = [_])) rfl rfl (by repeat first | exact At.head _ _ | assumption | exact At.put (by assumption) _ | apply At.tail | apply At.app) (Nat.le_of_ble_eq_true rfl) rfl ?_
                | refine NV.store_elem T rfl rfl rfl rfl (by conv => lhs; whnf) rfl (by repeat first | exact At.head _ _ | assumption | exact At.put (by assumption) _ | apply At.tail | apply At.app) (by omega) ?_
              refine RL.nil _ _ _ _ ?_
              refine hKi1_1 _ _ _ ?_
              refine SW.seq_k ?_
              intro Ki1_3 hKi1_3
              refine SW.region _ _ _ _ ?_
              refine RL.st ?_
              first
                | refine NV.lv1 T ?_
                | refine NV.load_elem T rfl rfl rfl rfl (by repeat first | exact hR | apply Rd.cons | apply Rd.app) (by first | exact map_get _ _ (by omega) | assumption) ?_
              refine RL.st ?_
              refine NV.p T ?_
              refine RL.st ?_
              first
                | refine NV.lv1 T ?_
                | refine NV.load_elem T rfl rfl rfl rfl (by repeat first | exact hR | apply Rd.cons | apply Rd.app) (by first | exact map_get _ _ (by omega) | assumption) ?_
              refine RL.st ?_
              refine NV.p T ?_
              refine RL.st ?_
              refine NV.p T ?_
              refine RL.nil _ _ _ _ ?_
              refine hKi1_3 _ _ _ ?_
              refine SW.ret ?_
              refine retQ.ret (RVs.tmp (by conv => lhs; whnf) RVs.nil) (fun w hw => hw) ?_
              refine RL.st ?_
              refine NV.p T ?_
              refine RL.nil _ _ _ _ ?_
              refine hK13 _ _ _ ?_
              refine SW.cond rfl (fun hc2 => ?_) (fun hc2 => ?_)
              ·try simp only [decide_eq_true_eq, decide_eq_false_iff_not, Bool.not_eq_true', Bool.not_eq_false', Int.not_lt, Int.not_le, Int.toNat_natCast] at hc2
               first
                | (exfalso; clear hKi1_3 Ki1_3; clear hKi1_2 Ki1_2; clear hKi1_1 Ki1_1; clear hKi1_0 Ki1_0; clear hK13 K13; clear hK12 K12; clear hK10 K10; clear hK9 K9; clear hK8 K8; clear hK7 K7; clear hK6 K6; clear hK5 K5; clear hK4 K4; clear hK3 K3; clear hK2 K2; clear hK1 K1; clear hK0 K0; first | omega | contradiction)
                | (
                 refine SW.exit ?_
                 refine hK2 _ _ _ ?_
                 refine SW.seq_k ?_
                 intro K14 hK14
                 refine SW.region _ _ _ _ ?_
                 refine RL.st ?_
                 refine NV.p T ?_
                 refine RL.nil _ _ _ _ ?_
                 refine hK14 _ _ _ ?_
                 refine SW.ret ?_
                 refine retQ.ret (H' := _) (RVs.tmp (by conv => lhs; whnf) RVs.nil) (fun w hw => Sat.sub (by first | exact List.sublist_cons_self _ _) hw) ?_
                 clear hK14 K14 hKi1_3 Ki1_3 hKi1_2 Ki1_2 hKi1_1 Ki1_1 hKi1_0 Ki1_0 hK13 K13 hK12 K12 hK10 K10 hK9 K9 hK8 K8 hK7 K7 hK6 K6 hK5 K5 hK4 K4 hK3 K3 hK2 K2 hK1 K1 hK0 K0
                 first
                   | (exact ⟨0, ai1_0_, L + 1, ci1_0_, o ++ [es.getD k 0], k + 1, rfl, by simp; omega, by simp, .inr (.inr ⟨rfl, by simp; omega, ((hI.see (by omega) (by omega) (by omega)).fit (by simp; omega)).trans (by simp)⟩)⟩)
                   | (exact ⟨0, ai2_0_, L + 1, ci2_0_, o ++ [es.getD k 0], k + 1, rfl, by simp; omega, by simp, .inr (.inr ⟨rfl, by simp; omega, ((hI.see (by omega) (by omega) (by omega)).fit (by simp; omega)).trans (by simp)⟩)⟩)
                   | (exact ⟨0, ai3_0_, L + 1, ci3_0_, o ++ [es.getD k 0], k + 1, rfl, by simp; omega, by simp, .inr (.inr ⟨rfl, by simp; omega, ((hI.see (by omega) (by omega) (by omega)).fit (by simp; omega)).trans (by simp)⟩)⟩)
                   | (exact ⟨4, sr, L, cr, o, tk, rfl, hL, rfl, .inl ⟨rfl, hI.bad (by omega) (by omega) (by omega) (by omega)⟩⟩)
                   | (exact ⟨0, sr, L, cr, o, tk, rfl, hL, rfl, .inr (.inl ⟨rfl, hlt, hI.short (by omega) hlt⟩)⟩)
                 )
              ·try simp only [decide_eq_true_eq, decide_eq_false_iff_not, Bool.not_eq_true', Bool.not_eq_false', Int.not_lt, Int.not_le, Int.toNat_natCast] at hc2
               first
                | (exfalso; clear hKi1_3 Ki1_3; clear hKi1_2 Ki1_2; clear hKi1_1 Ki1_1; clear hKi1_0 Ki1_0; clear hK13 K13; clear hK12 K12; clear hK10 K10; clear hK9 K9; clear hK8 K8; clear hK7 K7; clear hK6 K6; clear hK5 K5; clear hK4 K4; clear hK3 K3; clear hK2 K2; clear hK1 K1; clear hK0 K0; first | omega | contradiction)
                | (
                 refine SW.skip ?_
                 refine hK6 _ _ _ ?_
                 refine SW.region _ _ _ _ ?_
                 refine RL.st ?_
                 first | refine NV.arith rfl rfl rfl rfl (by omega) (by omega) ?_ | refine NV.p T ?_
                 refine RL.st ?_
                 refine NV.p T ?_
                 refine RL.nil _ _ _ _ ?_
                 first
                   | exact ⟨n - (k + 1), (by omega), k + 1, sr, L, cr, o, tk, (by rfl), ⟨by omega, ⟨by assumption, hI.stuff (by omega) (by omega) (by omega) (by omega), by omega⟩⟩, (.cons rfl (.nil (by repeat first | exact Mx.refl | exact Mx.mix | refine Mx.put rfl ?_ | refine Mx.upd rfl ?_ | refine Mx.updl rfl ?_ | refine Mx.fin rfl ?_ | refine Mx.inner rfl ?_ | refine Mx.none ?_))), rfl, (by rw [take_succ (by omega), st_app])⟩
                   | exact ⟨n - (k + 1), (by omega), k + 1, ai1_0_, L + 1, ci1_0_, o ++ [es.getD k 0], k + 1, (by rfl), ⟨by omega, ⟨by simp; omega, hI.see (by omega) (by omega) (by omega), by simp; omega⟩⟩, (.cons rfl (.nil (by repeat first | exact Mx.refl | exact Mx.mix | refine Mx.put rfl ?_ | refine Mx.upd rfl ?_ | refine Mx.updl rfl ?_ | refine Mx.fin rfl ?_ | refine Mx.inner rfl ?_ | refine Mx.none ?_))), rfl, (by rw [take_succ (by omega), st_app]; simp)⟩
                   | exact ⟨n - (k + 1), (by omega), k + 1, ai2_0_, L + 1, ci2_0_, o ++ [es.getD k 0], k + 1, (by rfl), ⟨by omega, ⟨by simp; omega, hI.see (by omega) (by omega) (by omega), by simp; omega⟩⟩, (.cons rfl (.nil (by repeat first | exact Mx.refl | exact Mx.mix | refine Mx.put rfl ?_ | refine Mx.upd rfl ?_ | refine Mx.updl rfl ?_ | refine Mx.fin rfl ?_ | refine Mx.inner rfl ?_ | refine Mx.none ?_))), rfl, (by rw [take_succ (by omega), st_app]; simp)⟩
                   | exact ⟨n - (k + 1), (by omega), k + 1, ai3_0_, L + 1, ci3_0_, o ++ [es.getD k 0], k + 1, (by rfl), ⟨by omega, ⟨by simp; omega, hI.see (by omega) (by omega) (by omega), by simp; omega⟩⟩, (.cons rfl (.nil (by repeat first | exact Mx.refl | exact Mx.mix | refine Mx.put rfl ?_ | refine Mx.upd rfl ?_ | refine Mx.updl rfl ?_ | refine Mx.fin rfl ?_ | refine Mx.inner rfl ?_ | refine Mx.none ?_))), rfl, (by rw [take_succ (by omega), st_app]; simp)⟩
                 )
              )
           ·try simp only [decide_eq_true_eq, decide_eq_false_iff_not, Bool.not_eq_true', Bool.not_eq_false', Int.not_lt, Int.not_le, Int.toNat_natCast] at hci1_0
            first
             | (exfalso; clear hKi1_2 Ki1_2; clear hKi1_1 Ki1_1; clear hKi1_0 Ki1_0; first | omega | contradiction)
             | (
              refine SW.skip ?_
              refine hKi1_1 _ _ _ ?_
              refine SW.seq_k ?_
              intro Ki1_4 hKi1_4
              refine SW.region _ _ _ _ ?_
              refine RL.st ?_
              first
                | refine NV.lv1 T ?_
                | refine NV.load_elem T rfl rfl rfl rfl (by repeat first | exact hR | apply Rd.cons | apply Rd.app) (by first | exact map_get _ _ (by omega) | assumption) ?_
              refine RL.st ?_
              refine NV.p T ?_
              refine RL.st ?_
              first
                | refine NV.lv1 T ?_
                | refine NV.load_elem T rfl rfl rfl rfl (by repeat first | exact hR | apply Rd.cons | apply Rd.app) (by first | exact map_get _ _ (by omega) | assumption) ?_
              refine RL.st ?_
              refine NV.p T ?_
              refine RL.st ?_
              refine NV.p T ?_
              refine RL.nil _ _ _ _ ?_
              refine hKi1_4 _ _ _ ?_
              refine SW.ret ?_
              refine retQ.ret (RVs.tmp (by conv => lhs; whnf) RVs.nil) (fun w hw => hw) ?_
              refine RL.st ?_
              refine NV.p T ?_
              refine RL.nil _ _ _ _ ?_
              refine hK13 _ _ _ ?_
              refine SW.cond rfl (fun hc3 => ?_) (fun hc3 => ?_)
              ·try simp only [decide_eq_true_eq, decide_eq_false_iff_not, Bool.not_eq_true', Bool.not_eq_false', Int.not_lt, Int.not_le, Int.toNat_natCast] at hc3
               first
                | (exfalso; clear hKi1_4 Ki1_4; clear hKi1_2 Ki1_2; clear hKi1_1 Ki1_1; clear hKi1_0 Ki1_0; clear hK13 K13; clear hK12 K12; clear hK10 K10; clear hK9 K9; clear hK8 K8; clear hK7 K7; clear hK6 K6; clear hK5 K5; clear hK4 K4; clear hK3 K3; clear hK2 K2; clear hK1 K1; clear hK0 K0; first | omega | contradiction)
                | (
                 refine SW.exit ?_
                 refine hK2 _ _ _ ?_
                 refine SW.seq_k ?_
                 intro K15 hK15
                 refine SW.region _ _ _ _ ?_
                 refine RL.st ?_
                 refine NV.p T ?_
                 refine RL.nil _ _ _ _ ?_
                 refine hK15 _ _ _ ?_
                 refine SW.ret ?_
                 refine retQ.ret (H' := _) (RVs.tmp (by conv => lhs; whnf) RVs.nil) (fun w hw => Sat.sub (by first | exact List.sublist_cons_self _ _) hw) ?_
                 clear hK15 K15 hKi1_4 Ki1_4 hKi1_2 Ki1_2 hKi1_1 Ki1_1 hKi1_0 Ki1_0 hK13 K13 hK12 K12 hK10 K10 hK9 K9 hK8 K8 hK7 K7 hK6 K6 hK5 K5 hK4 K4 hK3 K3 hK2 K2 hK1 K1 hK0 K0
                 first
                   | (exact ⟨0, ai1_0_, L + 1, ci1_0_, o ++ [es.getD k 0], k + 1, rfl, by simp; omega, by simp, .inr (.inr ⟨rfl, by simp; omega, ((hI.see (by omega) (by omega) (by omega)).fit (by simp; omega)).trans (by simp)⟩)⟩)
                   | (exact ⟨0, ai2_0_, L + 1, ci2_0_, o ++ [es.getD k 0], k + 1, rfl, by simp; omega, by simp, .inr (.inr ⟨rfl, by simp; omega, ((hI.see (by omega) (by omega) (by omega)).fit (by simp; omega)).trans (by simp)⟩)⟩)
                   | (exact ⟨0, ai3_0_, L + 1, ci3_0_, o ++ [es.getD k 0], k + 1, rfl, by simp; omega, by simp, .inr (.inr ⟨rfl, by simp; omega, ((hI.see (by omega) (by omega) (by omega)).fit (by simp; omega)).trans (by simp)⟩)⟩)
                   | (exact ⟨4, sr, L, cr, o, tk, rfl, hL, rfl, .inl ⟨rfl, hI.bad (by omega) (by omega) (by omega) (by omega)⟩⟩)
                   | (exact ⟨0, sr, L, cr, o, tk, rfl, hL, rfl, .inr (.inl ⟨rfl, hlt, hI.short (by omega) hlt⟩)⟩)
                 )
              ·try simp only [decide_eq_true_eq, decide_eq_false_iff_not, Bool.not_eq_true', Bool.not_eq_false', Int.not_lt, Int.not_le, Int.toNat_natCast] at hc3
               first
                | (exfalso; clear hKi1_4 Ki1_4; clear hKi1_2 Ki1_2; clear hKi1_1 Ki1_1; clear hKi1_0 Ki1_0; clear hK13 K13; clear hK12 K12; clear hK10 K10; clear hK9 K9; clear hK8 K8; clear hK7 K7; clear hK6 K6; clear hK5 K5; clear hK4 K4; clear hK3 K3; clear hK2 K2; clear hK1 K1; clear hK0 K0; first | omega | contradiction)
                | (
                 refine SW.skip ?_
                 refine hK6 _ _ _ ?_
                 refine SW.region _ _ _ _ ?_
                 refine RL.st ?_
                 first | refine NV.arith rfl rfl rfl rfl (by omega) (by omega) ?_ | refine NV.p T ?_
                 refine RL.st ?_
                 refine NV.p T ?_
                 refine RL.nil _ _ _ _ ?_
                 first
                   | exact ⟨n - (k + 1), (by omega), k + 1, sr, L, cr, o, tk, (by rfl), ⟨by omega, ⟨by assumption, hI.stuff (by omega) (by omega) (by omega) (by omega), by omega⟩⟩, (.cons rfl (.nil (by repeat first | exact Mx.refl | exact Mx.mix | refine Mx.put rfl ?_ | refine Mx.upd rfl ?_ | refine Mx.updl rfl ?_ | refine Mx.fin rfl ?_ | refine Mx.inner rfl ?_ | refine Mx.none ?_))), rfl, (by rw [take_succ (by omega), st_app])⟩
                   | exact ⟨n - (k + 1), (by omega), k + 1, ai1_0_, L + 1, ci1_0_, o ++ [es.getD k 0], k + 1, (by rfl), ⟨by omega, ⟨by simp; omega, hI.see (by omega) (by omega) (by omega), by simp; omega⟩⟩, (.cons rfl (.nil (by repeat first | exact Mx.refl | exact Mx.mix | refine Mx.put rfl ?_ | refine Mx.upd rfl ?_ | refine Mx.updl rfl ?_ | refine Mx.fin rfl ?_ | refine Mx.inner rfl ?_ | refine Mx.none ?_))), rfl, (by rw [take_succ (by omega), st_app]; simp)⟩
                   | exact ⟨n - (k + 1), (by omega), k + 1, ai2_0_, L + 1, ci2_0_, o ++ [es.getD k 0], k + 1, (by rfl), ⟨by omega, ⟨by simp; omega, hI.see (by omega) (by omega) (by omega), by simp; omega⟩⟩, (.cons rfl (.nil (by repeat first | exact Mx.refl | exact Mx.mix | refine Mx.put rfl ?_ | refine Mx.upd rfl ?_ | refine Mx.updl rfl ?_ | refine Mx.fin rfl ?_ | refine Mx.inner rfl ?_ | refine Mx.none ?_))), rfl, (by rw [take_succ (by omega), st_app]; simp)⟩
                   | exact ⟨n - (k + 1), (by omega), k + 1, ai3_0_, L + 1, ci3_0_, o ++ [es.getD k 0], k + 1, (by rfl), ⟨by omega, ⟨by simp; omega, hI.see (by omega) (by omega) (by omega), by simp; omega⟩⟩, (.cons rfl (.nil (by repeat first | exact Mx.refl | exact Mx.mix | refine Mx.put rfl ?_ | refine Mx.upd rfl ?_ | refine Mx.updl rfl ?_ | refine Mx.fin rfl ?_ | refine Mx.inner rfl ?_ | refine Mx.none ?_))), rfl, (by rw [take_succ (by omega), st_app]; simp)⟩
                 )
              )
           )
        )
     ·try simp only [decide_eq_true_eq, decide_eq_false_iff_not, Bool.not_eq_true', Bool.not_eq_false', Int.not_lt, Int.not_le, Int.toNat_natCast] at hs0
      first
       | (exfalso; clear hK10 K10; clear hK9 K9; clear hK8 K8; clear hK7 K7; clear hK6 K6; clear hK5 K5; clear hK4 K4; clear hK3 K3; clear hK2 K2; clear hK1 K1; clear hK0 K0; first | omega | contradiction)
       | (
        refine RL.guard_no rfl rfl rfl ?_
        refine RL.guard_no rfl rfl rfl ?_
        refine RL.guard_no rfl rfl rfl ?_
        refine RL.guard_no rfl rfl rfl ?_
        refine RL.st ?_
        refine NV.p T ?_
        refine RL.nil _ _ _ _ ?_
        refine hK10 _ _ _ ?_
        refine SW.cond_f rfl ?_
        refine SW.skip ?_
        refine hK9 _ _ _ ?_
        refine SW.seq_k ?_
        intro K16 hK16
        refine SW.region _ _ _ _ ?_
        refine RL.st ?_
        refine NV.p T ?_
        refine RL.st ?_
        refine NV.call rfl rfl rfl fun24 rfl rfl (ssee b5_0 _ _ (es.getD k 0) (by omega) (by omega) _ (by repeat first | exact At.head _ _ | apply At.tail | apply At.app)) ?_
        rintro _ _ e; obtain rfl := e.symm
        refine RL.nil _ _ _ _ ?_
        refine hK16 _ _ _ ?_
        refine SW.seq_k ?_
        intro K17 hK17
        refine SW.region _ _ _ _ ?_
        refine RL.st ?_
        refine NV.p T ?_
        refine RL.st ?_
        refine NV.p T ?_
        refine RL.st ?_
        refine NV.p T ?_
        refine RL.st ?_
        refine NV.p T ?_
        refine RL.st ?_
        refine NV.call rfl rfl rfl fun33 rfl rfl (SC.enter Try.func33 rfl (Nat.le_of_ble_eq_true rfl) ?_) (fun _ _ h => h)
        refine SW.seq_k ?_
        intro Ki2_0 hKi2_0
        refine SW.region _ _ _ _ ?_
        refine RL.st ?_
        refine NV.p T ?_
        refine RL.nil _ _ _ _ ?_
        refine hKi2_0 _ _ _ ?_
        refine SW.seq_k ?_
        intro Ki2_1 hKi2_1
        refine SW.seq_k ?_
        intro Ki2_2 hKi2_2
        refine SW.region _ _ _ _ ?_
        refine RL.st ?_
        refine NV.p T ?_
        refine RL.st ?_
        refine NV.p T ?_
        refine RL.nil _ _ _ _ ?_
        refine hKi2_2 _ _ _ ?_
        refine SW.cond rfl (fun hci2_0 => ?_) (fun hci2_0 => ?_)
        ·try simp only [decide_eq_true_eq, decide_eq_false_iff_not, Bool.not_eq_true', Bool.not_eq_false', Int.not_lt, Int.not_le, Int.toNat_natCast] at hci2_0
         first
          | (exfalso; clear hKi2_2 Ki2_2; clear hKi2_1 Ki2_1; clear hKi2_0 Ki2_0; first | omega | contradiction)
          | (
           refine SW.region _ _ _ _ ?_
           refine RL.st ?_
           first
             | refine NV.lv1 T ?_
             | refine NV.load_elem T rfl rfl rfl rfl (by repeat first | exact hR | apply Rd.cons | apply Rd.app) (by first | exact map_get _ _ (by omega) | assumption) ?_
           refine RL.st ?_
           refine NV.p T ?_
           refine RL.st ?_
           refine NV.build1 T rfl (by conv => lhs; whnf) rfl rfl (by conv => lhs; whnf) (by exact (rfl : _ = some [_])) ?_
           intro b14_i2_0
           refine RL.st ?_
           first
             | refine NV.append1 T rfl rfl rfl rfl rfl rfl rfl rfl rfl rfl (by repeat first | exact At.head _ _ | assumption | exact At.put (by assumption) _ | apply At.tail | apply At.app) (ones rfl) (by first | omega | (unfold maxLen; omega)) (by first | omega | (show (_ + _) * 1 ≤ 140737488355328; omega)) ?_
             | refine NV.append T rfl rfl rfl rfl rfl rfl rfl rfl rfl rfl (by repeat first | exact At.head _ _ | assumption | exact At.put (by assumption) _ | apply At.tail | apply At.app) (by assumption) (ones rfl) (by first | omega | (unfold maxLen; omega)) (by first | omega | (show (_ + _) * 1 ≤ 140737488355328; omega)) ?_
           intro ai2_0_ ci2_0_
           refine RL.st ?_
           refine NV.p T ?_
           refine RL.st ?_
           first | refine NV.arith rfl rfl rfl rfl (by omega) (by omega) ?_ | refine NV.p T ?_
           refine RL.st ?_
           first
             | refine NV.store_var1 T rfl rfl rfl rfl (by conv => lhs; whnf) rfl (by repeat first | exact At.head _ _ | assumption | exact At.put (by assumption) _ | apply At.tail | apply At.app) rfl rfl ?_
             | refine NV.store_var T rfl rfl rfl (by exact (rfl : _ = [_])) rfl rfl (by repeat first | exact At.head _ _ | assumption | exact At.put (by assumption) _ | apply At.tail | apply At.app) (Nat.le_of_ble_eq_true rfl) rfl ?_
             | refine NV.store_elem T rfl rfl rfl rfl (by conv => lhs; whnf) rfl (by repeat first | exact At.head _ _ | assumption | exact At.put (by assumption) _ | apply At.tail | apply At.app) (by omega) ?_
           refine RL.st ?_
           first
             | refine NV.store_var1 T rfl rfl rfl rfl (by conv => lhs; whnf) rfl (by repeat first | exact At.head _ _ | assumption | exact At.put (by assumption) _ | apply At.tail | apply At.app) rfl rfl ?_
             | refine NV.store_var T rfl rfl rfl (by exact (rfl : _ = [_])) rfl rfl (by repeat first | exact At.head _ _ | assumption | exact At.put (by assumption) _ | apply At.tail | apply At.app) (Nat.le_of_ble_eq_true rfl) rfl ?_
             | refine NV.store_elem T rfl rfl rfl rfl (by conv => lhs; whnf) rfl (by repeat first | exact At.head _ _ | assumption | exact At.put (by assumption) _ | apply At.tail | apply At.app) (by omega) ?_
           refine RL.nil _ _ _ _ ?_
           refine hKi2_1 _ _ _ ?_
           refine SW.seq_k ?_
           intro Ki2_3 hKi2_3
           refine SW.region _ _ _ _ ?_
           refine RL.st ?_
           first
             | refine NV.lv1 T ?_
             | refine NV.load_elem T rfl rfl rfl rfl (by repeat first | exact hR | apply Rd.cons | apply Rd.app) (by first | exact map_get _ _ (by omega) | assumption) ?_
           refine RL.st ?_
           refine NV.p T ?_
           refine RL.st ?_
           first
             | refine NV.lv1 T ?_
             | refine NV.load_elem T rfl rfl rfl rfl (by repeat first | exact hR | apply Rd.cons | apply Rd.app) (by first | exact map_get _ _ (by omega) | assumption) ?_
           refine RL.st ?_
           refine NV.p T ?_
           refine RL.st ?_
           refine NV.p T ?_
           refine RL.nil _ _ _ _ ?_
           refine hKi2_3 _ _ _ ?_
           refine SW.ret ?_
           refine retQ.ret (RVs.tmp (by conv => lhs; whnf) RVs.nil) (fun w hw => hw) ?_
           refine RL.st ?_
           refine NV.p T ?_
           refine RL.nil _ _ _ _ ?_
           refine hK17 _ _ _ ?_
           refine SW.cond rfl (fun hc4 => ?_) (fun hc4 => ?_)
           ·try simp only [decide_eq_true_eq, decide_eq_false_iff_not, Bool.not_eq_true', Bool.not_eq_false', Int.not_lt, Int.not_le, Int.toNat_natCast] at hc4
            first
             | (exfalso; clear hKi2_3 Ki2_3; clear hKi2_2 Ki2_2; clear hKi2_1 Ki2_1; clear hKi2_0 Ki2_0; clear hK17 K17; clear hK16 K16; clear hK10 K10; clear hK9 K9; clear hK8 K8; clear hK7 K7; clear hK6 K6; clear hK5 K5; clear hK4 K4; clear hK3 K3; clear hK2 K2; clear hK1 K1; clear hK0 K0; first | omega | contradiction)
             | (
              refine SW.exit ?_
              refine hK2 _ _ _ ?_
              refine SW.seq_k ?_
              intro K18 hK18
              refine SW.region _ _ _ _ ?_
              refine RL.st ?_
              refine NV.p T ?_
              refine RL.nil _ _ _ _ ?_
              refine hK18 _ _ _ ?_
              refine SW.ret ?_
              refine retQ.ret (H' := _) (RVs.tmp (by conv => lhs; whnf) RVs.nil) (fun w hw => Sat.sub (by first | exact List.sublist_cons_self _ _) hw) ?_
              clear hK18 K18 hKi2_3 Ki2_3 hKi2_2 Ki2_2 hKi2_1 Ki2_1 hKi2_0 Ki2_0 hK17 K17 hK16 K16 hK10 K10 hK9 K9 hK8 K8 hK7 K7 hK6 K6 hK5 K5 hK4 K4 hK3 K3 hK2 K2 hK1 K1 hK0 K0
              first
                | (exact ⟨0, ai1_0_, L + 1, ci1_0_, o ++ [es.getD k 0], k + 1, rfl, by simp; omega, by simp, .inr (.inr ⟨rfl, by simp; omega, ((hI.see (by omega) (by omega) (by omega)).fit (by simp; omega)).trans (by simp)⟩)⟩)
                | (exact ⟨0, ai2_0_, L + 1, ci2_0_, o ++ [es.getD k 0], k + 1, rfl, by simp; omega, by simp, .inr (.inr ⟨rfl, by simp; omega, ((hI.see (by omega) (by omega) (by omega)).fit (by simp; omega)).trans (by simp)⟩)⟩)
                | (exact ⟨0, ai3_0_, L + 1, ci3_0_, o ++ [es.getD k 0], k + 1, rfl, by simp; omega, by simp, .inr (.inr ⟨rfl, by simp; omega, ((hI.see (by omega) (by omega) (by omega)).fit (by simp; omega)).trans (by simp)⟩)⟩)
                | (exact ⟨4, sr, L, cr, o, tk, rfl, hL, rfl, .inl ⟨rfl, hI.bad (by omega) (by omega) (by omega) (by omega)⟩⟩)
                | (exact ⟨0, sr, L, cr, o, tk, rfl, hL, rfl, .inr (.inl ⟨rfl, hlt, hI.short (by omega) hlt⟩)⟩)
              )
           ·try simp only [decide_eq_true_eq, decide_eq_false_iff_not, Bool.not_eq_true', Bool.not_eq_false', Int.not_lt, Int.not_le, Int.toNat_natCast] at hc4
            first
             | (exfalso; clear hKi2_3 Ki2_3; clear hKi2_2 Ki2_2; clear hKi2_1 Ki2_1; clear hKi2_0 Ki2_0; clear hK17 K17; clear hK16 K16; clear hK10 K10; clear hK9 K9; clear hK8 K8; clear hK7 K7; clear hK6 K6; clear hK5 K5; clear hK4 K4; clear hK3 K3; clear hK2 K2; clear hK1 K1; clear hK0 K0; first | omega | contradiction)
             | (
              refine SW.skip ?_
              refine hK6 _ _ _ ?_
              refine SW.region _ _ _ _ ?_
              refine RL.st ?_
              first | refine NV.arith rfl rfl rfl rfl (by omega) (by omega) ?_ | refine NV.p T ?_
              refine RL.st ?_
              refine NV.p T ?_
              refine RL.nil _ _ _ _ ?_
              first
                | exact ⟨n - (k + 1), (by omega), k + 1, sr, L, cr, o, tk, (by rfl), ⟨by omega, ⟨by assumption, hI.stuff (by omega) (by omega) (by omega) (by omega), by omega⟩⟩, (.cons rfl (.nil (by repeat first | exact Mx.refl | exact Mx.mix | refine Mx.put rfl ?_ | refine Mx.upd rfl ?_ | refine Mx.updl rfl ?_ | refine Mx.fin rfl ?_ | refine Mx.inner rfl ?_ | refine Mx.none ?_))), rfl, (by rw [take_succ (by omega), st_app])⟩
                | exact ⟨n - (k + 1), (by omega), k + 1, ai1_0_, L + 1, ci1_0_, o ++ [es.getD k 0], k + 1, (by rfl), ⟨by omega, ⟨by simp; omega, hI.see (by omega) (by omega) (by omega), by simp; omega⟩⟩, (.cons rfl (.nil (by repeat first | exact Mx.refl | exact Mx.mix | refine Mx.put rfl ?_ | refine Mx.upd rfl ?_ | refine Mx.updl rfl ?_ | refine Mx.fin rfl ?_ | refine Mx.inner rfl ?_ | refine Mx.none ?_))), rfl, (by rw [take_succ (by omega), st_app]; simp)⟩
                | exact ⟨n - (k + 1), (by omega), k + 1, ai2_0_, L + 1, ci2_0_, o ++ [es.getD k 0], k + 1, (by rfl), ⟨by omega, ⟨by simp; omega, hI.see (by omega) (by omega) (by omega), by simp; omega⟩⟩, (.cons rfl (.nil (by repeat first | exact Mx.refl | exact Mx.mix | refine Mx.put rfl ?_ | refine Mx.upd rfl ?_ | refine Mx.updl rfl ?_ | refine Mx.fin rfl ?_ | refine Mx.inner rfl ?_ | refine Mx.none ?_))), rfl, (by rw [take_succ (by omega), st_app]; simp)⟩
                | exact ⟨n - (k + 1), (by omega), k + 1, ai3_0_, L + 1, ci3_0_, o ++ [es.getD k 0], k + 1, (by rfl), ⟨by omega, ⟨by simp; omega, hI.see (by omega) (by omega) (by omega), by simp; omega⟩⟩, (.cons rfl (.nil (by repeat first | exact Mx.refl | exact Mx.mix | refine Mx.put rfl ?_ | refine Mx.upd rfl ?_ | refine Mx.updl rfl ?_ | refine Mx.fin rfl ?_ | refine Mx.inner rfl ?_ | refine Mx.none ?_))), rfl, (by rw [take_succ (by omega), st_app]; simp)⟩
              )
           )
        ·try simp only [decide_eq_true_eq, decide_eq_false_iff_not, Bool.not_eq_true', Bool.not_eq_false', Int.not_lt, Int.not_le, Int.toNat_natCast] at hci2_0
         first
          | (exfalso; clear hKi2_2 Ki2_2; clear hKi2_1 Ki2_1; clear hKi2_0 Ki2_0; first | omega | contradiction)
          | (
           refine SW.skip ?_
           refine hKi2_1 _ _ _ ?_
           refine SW.seq_k ?_
           intro Ki2_4 hKi2_4
           refine SW.region _ _ _ _ ?_
           refine RL.st ?_
           first
             | refine NV.lv1 T ?_
             | refine NV.load_elem T rfl rfl rfl rfl (by repeat first | exact hR | apply Rd.cons | apply Rd.app) (by first | exact map_get _ _ (by omega) | assumption) ?_
           refine RL.st ?_
           refine NV.p T ?_
           refine RL.st ?_
           first
             | refine NV.lv1 T ?_
             | refine NV.load_elem T rfl rfl rfl rfl (by repeat first | exact hR | apply Rd.cons | apply Rd.app) (by first | exact map_get _ _ (by omega) | assumption) ?_
           refine RL.st ?_
           refine NV.p T ?_
           refine RL.st ?_
           refine NV.p T ?_
           refine RL.nil _ _ _ _ ?_
           refine hKi2_4 _ _ _ ?_
           refine SW.ret ?_
           refine retQ.ret (RVs.tmp (by conv => lhs; whnf) RVs.nil) (fun w hw => hw) ?_
           refine RL.st ?_
           refine NV.p T ?_
           refine RL.nil _ _ _ _ ?_
           refine hK17 _ _ _ ?_
           refine SW.cond rfl (fun hc5 => ?_) (fun hc5 => ?_)
           ·try simp only [decide_eq_true_eq, decide_eq_false_iff_not, Bool.not_eq_true', Bool.not_eq_false', Int.not_lt, Int.not_le, Int.toNat_natCast] at hc5
            first
             | (exfalso; clear hKi2_4 Ki2_4; clear hKi2_2 Ki2_2; clear hKi2_1 Ki2_1; clear hKi2_0 Ki2_0; clear hK17 K17; clear hK16 K16; clear hK10 K10; clear hK9 K9; clear hK8 K8; clear hK7 K7; clear hK6 K6; clear hK5 K5; clear hK4 K4; clear hK3 K3; clear hK2 K2; clear hK1 K1; clear hK0 K0; first | omega | contradiction)
             | (
              refine SW.exit ?_
              refine hK2 _ _ _ ?_
              refine SW.seq_k ?_
              intro K19 hK19
              refine SW.region _ _ _ _ ?_
              refine RL.st ?_
              refine NV.p T ?_
              refine RL.nil _ _ _ _ ?_
              refine hK19 _ _ _ ?_
              refine SW.ret ?_
              refine retQ.ret (H' := _) (RVs.tmp (by conv => lhs; whnf) RVs.nil) (fun w hw => Sat.sub (by first | exact List.sublist_cons_self _ _) hw) ?_
              clear hK19 K19 hKi2_4 Ki2_4 hKi2_2 Ki2_2 hKi2_1 Ki2_1 hKi2_0 Ki2_0 hK17 K17 hK16 K16 hK10 K10 hK9 K9 hK8 K8 hK7 K7 hK6 K6 hK5 K5 hK4 K4 hK3 K3 hK2 K2 hK1 K1 hK0 K0
              first
                | (exact ⟨0, ai1_0_, L + 1, ci1_0_, o ++ [es.getD k 0], k + 1, rfl, by simp; omega, by simp, .inr (.inr ⟨rfl, by simp; omega, ((hI.see (by omega) (by omega) (by omega)).fit (by simp; omega)).trans (by simp)⟩)⟩)
                | (exact ⟨0, ai2_0_, L + 1, ci2_0_, o ++ [es.getD k 0], k + 1, rfl, by simp; omega, by simp, .inr (.inr ⟨rfl, by simp; omega, ((hI.see (by omega) (by omega) (by omega)).fit (by simp; omega)).trans (by simp)⟩)⟩)
                | (exact ⟨0, ai3_0_, L + 1, ci3_0_, o ++ [es.getD k 0], k + 1, rfl, by simp; omega, by simp, .inr (.inr ⟨rfl, by simp; omega, ((hI.see (by omega) (by omega) (by omega)).fit (by simp; omega)).trans (by simp)⟩)⟩)
                | (exact ⟨4, sr, L, cr, o, tk, rfl, hL, rfl, .inl ⟨rfl, hI.bad (by omega) (by omega) (by omega) (by omega)⟩⟩)
                | (exact ⟨0, sr, L, cr, o, tk, rfl, hL, rfl, .inr (.inl ⟨rfl, hlt, hI.short (by omega) hlt⟩)⟩)
              )
           ·try simp only [decide_eq_true_eq, decide_eq_false_iff_not, Bool.not_eq_true', Bool.not_eq_false', Int.not_lt, Int.not_le, Int.toNat_natCast] at hc5
            first
             | (exfalso; clear hKi2_4 Ki2_4; clear hKi2_2 Ki2_2; clear hKi2_1 Ki2_1; clear hKi2_0 Ki2_0; clear hK17 K17; clear hK16 K16; clear hK10 K10; clear hK9 K9; clear hK8 K8; clear hK7 K7; clear hK6 K6; clear hK5 K5; clear hK4 K4; clear hK3 K3; clear hK2 K2; clear hK1 K1; clear hK0 K0; first | omega | contradiction)
             | (
              refine SW.skip ?_
              refine hK6 _ _ _ ?_
              refine SW.region _ _ _ _ ?_
              refine RL.st ?_
              first | refine NV.arith rfl rfl rfl rfl (by omega) (by omega) ?_ | refine NV.p T ?_
              refine RL.st ?_
              refine NV.p T ?_
              refine RL.nil _ _ _ _ ?_
              first
                | exact ⟨n - (k + 1), (by omega), k + 1, sr, L, cr, o, tk, (by rfl), ⟨by omega, ⟨by assumption, hI.stuff (by omega) (by omega) (by omega) (by omega), by omega⟩⟩, (.cons rfl (.nil (by repeat first | exact Mx.refl | exact Mx.mix | refine Mx.put rfl ?_ | refine Mx.upd rfl ?_ | refine Mx.updl rfl ?_ | refine Mx.fin rfl ?_ | refine Mx.inner rfl ?_ | refine Mx.none ?_))), rfl, (by rw [take_succ (by omega), st_app])⟩
                | exact ⟨n - (k + 1), (by omega), k + 1, ai1_0_, L + 1, ci1_0_, o ++ [es.getD k 0], k + 1, (by rfl), ⟨by omega, ⟨by simp; omega, hI.see (by omega) (by omega) (by omega), by simp; omega⟩⟩, (.cons rfl (.nil (by repeat first | exact Mx.refl | exact Mx.mix | refine Mx.put rfl ?_ | refine Mx.upd rfl ?_ | refine Mx.updl rfl ?_ | refine Mx.fin rfl ?_ | refine Mx.inner rfl ?_ | refine Mx.none ?_))), rfl, (by rw [take_succ (by omega), st_app]; simp)⟩
                | exact ⟨n - (k + 1), (by omega), k + 1, ai2_0_, L + 1, ci2_0_, o ++ [es.getD k 0], k + 1, (by rfl), ⟨by omega, ⟨by simp; omega, hI.see (by omega) (by omega) (by omega), by simp; omega⟩⟩, (.cons rfl (.nil (by repeat first | exact Mx.refl | exact Mx.mix | refine Mx.put rfl ?_ | refine Mx.upd rfl ?_ | refine Mx.updl rfl ?_ | refine Mx.fin rfl ?_ | refine Mx.inner rfl ?_ | refine Mx.none ?_))), rfl, (by rw [take_succ (by omega), st_app]; simp)⟩
                | exact ⟨n - (k + 1), (by omega), k + 1, ai3_0_, L + 1, ci3_0_, o ++ [es.getD k 0], k + 1, (by rfl), ⟨by omega, ⟨by simp; omega, hI.see (by omega) (by omega) (by omega), by simp; omega⟩⟩, (.cons rfl (.nil (by repeat first | exact Mx.refl | exact Mx.mix | refine Mx.put rfl ?_ | refine Mx.upd rfl ?_ | refine Mx.updl rfl ?_ | refine Mx.fin rfl ?_ | refine Mx.inner rfl ?_ | refine Mx.none ?_))), rfl, (by rw [take_succ (by omega), st_app]; simp)⟩
              )
           )
        )
     )
  ·try simp only [decide_eq_true_eq, decide_eq_false_iff_not, Bool.not_eq_true', Bool.not_eq_false', Int.not_lt, Int.not_le, Int.toNat_natCast] at hc0
   first
    | (exfalso; clear hK5 K5; clear hK4 K4; clear hK3 K3; clear hK2 K2; clear hK1 K1; clear hK0 K0; first | omega | contradiction)
    | (
     refine SW.exit ?_
     refine hK2 _ _ _ ?_
     refine SW.seq_k ?_
     intro K20 hK20
     refine SW.region _ _ _ _ ?_
     refine RL.st ?_
     refine NV.p T ?_
     refine RL.nil _ _ _ _ ?_
     refine hK20 _ _ _ ?_
     refine SW.ret ?_
     refine retQ.ret (H' := _) (RVs.tmp (by conv => lhs; whnf) RVs.nil) (fun w hw => Sat.sub (by first | exact List.sublist_cons_self _ _) hw) ?_
     clear hK20 K20 hK5 K5 hK4 K4 hK3 K3 hK2 K2 hK1 K1 hK0 K0
     first
       | (exact ⟨0, ai1_0_, L + 1, ci1_0_, o ++ [es.getD k 0], k + 1, rfl, by simp; omega, by simp, .inr (.inr ⟨rfl, by simp; omega, ((hI.see (by omega) (by omega) (by omega)).fit (by simp; omega)).trans (by simp)⟩)⟩)
       | (exact ⟨0, ai2_0_, L + 1, ci2_0_, o ++ [es.getD k 0], k + 1, rfl, by simp; omega, by simp, .inr (.inr ⟨rfl, by simp; omega, ((hI.see (by omega) (by omega) (by omega)).fit (by simp; omega)).trans (by simp)⟩)⟩)
       | (exact ⟨0, ai3_0_, L + 1, ci3_0_, o ++ [es.getD k 0], k + 1, rfl, by simp; omega, by simp, .inr (.inr ⟨rfl, by simp; omega, ((hI.see (by omega) (by omega) (by omega)).fit (by simp; omega)).trans (by simp)⟩)⟩)
       | (exact ⟨4, sr, L, cr, o, tk, rfl, hL, rfl, .inl ⟨rfl, hI.bad (by omega) (by omega) (by omega) (by omega)⟩⟩)
       | (exact ⟨0, sr, L, cr, o, tk, rfl, hL, rfl, .inr (.inl ⟨rfl, hlt, hI.short (by omega) hlt⟩)⟩)
     )
theorem take_bad {w0 : World} {H : List Chunk} (sa : Option Addr) (n c : Nat) (es : List Int) (hR : Rd w0 H sa n c 1 (es.map (.int .u8))) (hn : n = es.length) (hm : n ≤ 140737488351232) (m : Int) (hc : chk es = 2) : SC Try.prog w0 20 #[.slice sa n c, .int .i64 m] (.row none 0 0 5 1 (([] : List Int).map (.int .u8)) :: H) (fun v H' => v = .tuple #[.slice none 0 0, .int .i64 0, .int .i64 2] ∧ H' = H) := by
 refine SC.enter Try.func20 rfl (Nat.le_of_ble_eq_true rfl) ?_
 refine SW.seq_k ?_
 intro K0 hK0
 refine SW.region _ _ _ _ ?_
 refine RL.st ?_
 refine NV.box rfl (by exact (rfl : _ = [_])) ?_
 intro b3_0
 refine RL.st ?_
 refine NV.p T ?_
 refine RL.st ?_
 refine NV.p T ?_
 refine RL.st ?_
 refine NV.p T ?_
 refine RL.nil _ _ _ _ ?_
 refine hK0 _ _ _ ?_
 refine SW.seq_k ?_
 intro K1 hK1
 refine SW.seq_k ?_
 intro K2 hK2
 refine SW.region _ _ _ _ ?_
 refine RL.st ?_
 refine NV.p T ?_
 refine RL.st ?_
 refine NV.call rfl rfl rfl fun18 rfl rfl ((check sa n c es (by repeat first | exact hR | apply Rd.cons | apply Rd.app) hn hm).mono (fun v H' h => by rw [hc] at h; exact h)) ?_
 rintro _ _ ⟨rfl, e⟩; obtain rfl := e.symm
 refine RL.st ?_
 refine NV.p T ?_
 refine RL.nil _ _ _ _ ?_
 refine hK2 _ _ _ ?_
 refine SW.seq_k ?_
 intro K3 hK3
 refine SW.region _ _ _ _ ?_
 refine RL.st ?_
 refine NV.p T ?_
 refine RL.st ?_
 refine NV.p T ?_
 refine RL.nil _ _ _ _ ?_
 refine hK3 _ _ _ ?_
 refine SW.cond rfl (fun hc0 => ?_) (fun hc0 => ?_)
 ·try simp only [decide_eq_true_eq, decide_eq_false_iff_not, Bool.not_eq_true', Bool.not_eq_false', Int.not_lt, Int.not_le, Int.toNat_natCast] at hc0
  first
   | (exfalso; clear hK3 K3; clear hK2 K2; clear hK1 K1; clear hK0 K0; first | omega | contradiction)
   | (
    refine SW.seq_k ?_
    intro K4 hK4
    refine SW.region _ _ _ _ ?_
    refine RL.st ?_
    refine NV.p T ?_
    refine RL.st ?_
    refine NV.p T ?_
    refine RL.st ?_
    refine NV.p T ?_
    refine RL.st ?_
    refine NV.p T ?_
    refine RL.nil _ _ _ _ ?_
    refine hK4 _ _ _ ?_
    refine SW.ret ?_
    refine retQ.ret (H' := H) (RVs.tmp (by conv => lhs; whnf) (RVs.tmp (by conv => lhs; whnf) (RVs.tmp (by conv => lhs; whnf) RVs.nil))) (fun w hw => Sat.sub (by repeat first | exact List.Sublist.refl _ | apply List.Sublist.cons_cons | apply List.Sublist.cons | exact List.sublist_append_right _ _ | refine List.Sublist.trans ?_ (List.sublist_append_right _ _)) hw) ?_
    clear hK4 K4 hK3 K3 hK2 K2 hK1 K1 hK0 K0
    exact ⟨rfl, rfl⟩
    )
 ·try simp only [decide_eq_true_eq, decide_eq_false_iff_not, Bool.not_eq_true', Bool.not_eq_false', Int.not_lt, Int.not_le, Int.toNat_natCast] at hc0
  first
   | (exfalso; clear hK3 K3; clear hK2 K2; clear hK1 K1; clear hK0 K0; first | omega | contradiction)
   | (
    refine SW.skip ?_
    refine hK1 _ _ _ ?_
    refine SW.seq_k ?_
    intro K5 hK5
    refine SW.seq_k ?_
    intro K6 hK6
    refine SW.region _ _ _ _ ?_
    refine RL.st ?_
    refine NV.lv1 T ?_
    refine RL.st ?_
    refine NV.p T ?_
    refine RL.st ?_
    refine NV.p T ?_
    refine RL.split 18 rfl (fun hs0 => ?_) (fun hs0 => ?_)
    ·try simp only [decide_eq_true_eq, decide_eq_false_iff_not, Bool.not_eq_true', Bool.not_eq_false', Int.not_lt, Int.not_le, Int.toNat_natCast] at hs0
     first
      | (exfalso; clear hK6 K6; clear hK5 K5; clear hK3 K3; clear hK2 K2; clear hK1 K1; clear hK0 K0; first | omega | contradiction)
      | (
       refine RL.guard_no rfl rfl rfl ?_
       refine RL.guard_no rfl rfl rfl ?_
       refine RL.st ?_
       refine NV.p T ?_
       refine RL.nil _ _ _ _ ?_
       refine hK6 _ _ _ ?_
       refine SW.cond_t rfl ?_
       refine SW.seq_k ?_
       intro K7 hK7
       refine SW.region _ _ _ _ ?_
       refine RL.st ?_
       refine NV.p T ?_
       refine RL.st ?_
       refine NV.p T ?_
       refine RL.st ?_
       refine NV.p T ?_
       refine RL.nil _ _ _ _ ?_
       refine hK7 _ _ _ ?_
       refine SW.ret ?_
       refine retQ.ret (H' := H) (RVs.tmp (by conv => lhs; whnf) (RVs.tmp (by conv => lhs; whnf) (RVs.tmp (by conv => lhs; whnf) RVs.nil))) (fun w hw => Sat.sub (by repeat first | exact List.Sublist.refl _ | apply List.Sublist.cons_cons | apply List.Sublist.cons | exact List.sublist_append_right _ _ | refine List.Sublist.trans ?_ (List.sublist_append_right _ _)) hw) ?_
       clear hK7 K7 hK6 K6 hK5 K5 hK3 K3 hK2 K2 hK1 K1 hK0 K0
       exact ⟨rfl, rfl⟩
       )
    ·try simp only [decide_eq_true_eq, decide_eq_false_iff_not, Bool.not_eq_true', Bool.not_eq_false', Int.not_lt, Int.not_le, Int.toNat_natCast] at hs0
     first
      | (exfalso; clear hK6 K6; clear hK5 K5; clear hK3 K3; clear hK2 K2; clear hK1 K1; clear hK0 K0; first | omega | contradiction)
      | (
       refine RL.st ?_
       refine NV.lv1 T ?_
       refine RL.st ?_
       refine NV.p T ?_
       refine RL.st ?_
       refine NV.p T ?_
       refine RL.nil _ _ _ _ ?_
       refine hK6 _ _ _ ?_
       refine SW.cond rfl (fun hc1 => ?_) (fun hc1 => ?_)
       ·try simp only [decide_eq_true_eq, decide_eq_false_iff_not, Bool.not_eq_true', Bool.not_eq_false', Int.not_lt, Int.not_le, Int.toNat_natCast] at hc1
        first
         | (exfalso; clear hK6 K6; clear hK5 K5; clear hK3 K3; clear hK2 K2; clear hK1 K1; clear hK0 K0; first | omega | contradiction)
         | (
          refine SW.seq_k ?_
          intro K8 hK8
          refine SW.region _ _ _ _ ?_
          refine RL.st ?_
          refine NV.p T ?_
          refine RL.st ?_
          refine NV.p T ?_
          refine RL.st ?_
          refine NV.p T ?_
          refine RL.nil _ _ _ _ ?_
          refine hK8 _ _ _ ?_
          refine SW.ret ?_
          refine retQ.ret (H' := H) (RVs.tmp (by conv => lhs; whnf) (RVs.tmp (by conv => lhs; whnf) (RVs.tmp (by conv => lhs; whnf) RVs.nil))) (fun w hw => Sat.sub (by repeat first | exact List.Sublist.refl _ | apply List.Sublist.cons_cons | apply List.Sublist.cons | exact List.sublist_append_right _ _ | refine List.Sublist.trans ?_ (List.sublist_append_right _ _)) hw) ?_
          clear hK8 K8 hK6 K6 hK5 K5 hK3 K3 hK2 K2 hK1 K1 hK0 K0
          exact ⟨rfl, rfl⟩
          )
       ·try simp only [decide_eq_true_eq, decide_eq_false_iff_not, Bool.not_eq_true', Bool.not_eq_false', Int.not_lt, Int.not_le, Int.toNat_natCast] at hc1
        first
         | (exfalso; clear hK6 K6; clear hK5 K5; clear hK3 K3; clear hK2 K2; clear hK1 K1; clear hK0 K0; first | omega | contradiction)
         | (
          refine SW.skip ?_
          refine hK5 _ _ _ ?_
          refine SW.seq_k ?_
          intro K9 hK9
          refine SW.seq_k ?_
          intro K10 hK10
          refine SW.region _ _ _ _ ?_
          refine RL.st ?_
          refine NV.lv1 T ?_
          refine RL.st ?_
          refine NV.p T ?_
          refine RL.nil _ _ _ _ ?_
          refine hK10 _ _ _ ?_
          refine SW.cond rfl (fun hc2 => ?_) (fun hc2 => ?_)
          ·try simp only [decide_eq_true_eq, decide_eq_false_iff_not, Bool.not_eq_true', Bool.not_eq_false', Int.not_lt, Int.not_le, Int.toNat_natCast] at hc2
           first
            | (exfalso; clear hK10 K10; clear hK9 K9; clear hK6 K6; clear hK5 K5; clear hK3 K3; clear hK2 K2; clear hK1 K1; clear hK0 K0; first | omega | contradiction)
            | (
             refine SW.seq_k ?_
             intro K11 hK11
             refine SW.region _ _ _ _ ?_
             refine RL.st ?_
             refine NV.p T ?_
             refine RL.st ?_
             refine NV.p T ?_
             refine RL.st ?_
             refine NV.p T ?_
             refine RL.nil _ _ _ _ ?_
             refine hK11 _ _ _ ?_
             refine SW.ret ?_
             refine retQ.ret (H' := H) (RVs.tmp (by conv => lhs; whnf) (RVs.tmp (by conv => lhs; whnf) (RVs.tmp (by conv => lhs; whnf) RVs.nil))) (fun w hw => Sat.sub (by repeat first | exact List.Sublist.refl _ | apply List.Sublist.cons_cons | apply List.Sublist.cons | exact List.sublist_append_right _ _ | refine List.Sublist.trans ?_ (List.sublist_append_right _ _)) hw) ?_
             clear hK11 K11 hK10 K10 hK9 K9 hK6 K6 hK5 K5 hK3 K3 hK2 K2 hK1 K1 hK0 K0
             exact ⟨rfl, rfl⟩
             )
          ·try simp only [decide_eq_true_eq, decide_eq_false_iff_not, Bool.not_eq_true', Bool.not_eq_false', Int.not_lt, Int.not_le, Int.toNat_natCast] at hc2
           exfalso; clear hK10 K10; clear hK9 K9; clear hK6 K6; clear hK5 K5; clear hK3 K3; clear hK2 K2; clear hK1 K1; clear hK0 K0; first | omega | contradiction
          )
       )
    )
theorem take_arg {w0 : World} {H : List Chunk} (sa : Option Addr) (n c : Nat) (es : List Int) (hR : Rd w0 H sa n c 1 (es.map (.int .u8))) (hn : n = es.length) (hm : n ≤ 140737488351232) (m : Int) (hc : chk es = 0) (h : m < 0 ∨ 65536 < m) : SC Try.prog w0 20 #[.slice sa n c, .int .i64 m] (.row none 0 0 5 1 (([] : List Int).map (.int .u8)) :: H) (fun v H' => v = .tuple #[.slice none 0 0, .int .i64 0, .int .i64 2] ∧ H' = H) := by
 refine SC.enter Try.func20 rfl (Nat.le_of_ble_eq_true rfl) ?_
 refine SW.seq_k ?_
 intro K0 hK0
 refine SW.region _ _ _ _ ?_
 refine RL.st ?_
 refine NV.box rfl (by exact (rfl : _ = [_])) ?_
 intro b3_0
 refine RL.st ?_
 refine NV.p T ?_
 refine RL.st ?_
 refine NV.p T ?_
 refine RL.st ?_
 refine NV.p T ?_
 refine RL.nil _ _ _ _ ?_
 refine hK0 _ _ _ ?_
 refine SW.seq_k ?_
 intro K1 hK1
 refine SW.seq_k ?_
 intro K2 hK2
 refine SW.region _ _ _ _ ?_
 refine RL.st ?_
 refine NV.p T ?_
 refine RL.st ?_
 refine NV.call rfl rfl rfl fun18 rfl rfl ((check sa n c es (by repeat first | exact hR | apply Rd.cons | apply Rd.app) hn hm).mono (fun v H' h => by rw [hc] at h; exact h)) ?_
 rintro _ _ ⟨rfl, e⟩; obtain rfl := e.symm
 refine RL.st ?_
 refine NV.p T ?_
 refine RL.nil _ _ _ _ ?_
 refine hK2 _ _ _ ?_
 refine SW.seq_k ?_
 intro K3 hK3
 refine SW.region _ _ _ _ ?_
 refine RL.st ?_
 refine NV.p T ?_
 refine RL.st ?_
 refine NV.p T ?_
 refine RL.nil _ _ _ _ ?_
 refine hK3 _ _ _ ?_
 refine SW.cond rfl (fun hc0 => ?_) (fun hc0 => ?_)
 ·try simp only [decide_eq_true_eq, decide_eq_false_iff_not, Bool.not_eq_true', Bool.not_eq_false', Int.not_lt, Int.not_le, Int.toNat_natCast] at hc0
  first
   | (exfalso; clear hK3 K3; clear hK2 K2; clear hK1 K1; clear hK0 K0; first | omega | contradiction)
   | (
    refine SW.seq_k ?_
    intro K4 hK4
    refine SW.region _ _ _ _ ?_
    refine RL.st ?_
    refine NV.p T ?_
    refine RL.st ?_
    refine NV.p T ?_
    refine RL.st ?_
    refine NV.p T ?_
    refine RL.st ?_
    refine NV.p T ?_
    refine RL.nil _ _ _ _ ?_
    refine hK4 _ _ _ ?_
    refine SW.ret ?_
    refine retQ.ret (H' := H) (RVs.tmp (by conv => lhs; whnf) (RVs.tmp (by conv => lhs; whnf) (RVs.tmp (by conv => lhs; whnf) RVs.nil))) (fun w hw => Sat.sub (by repeat first | exact List.Sublist.refl _ | apply List.Sublist.cons_cons | apply List.Sublist.cons | exact List.sublist_append_right _ _ | refine List.Sublist.trans ?_ (List.sublist_append_right _ _)) hw) ?_
    clear hK4 K4 hK3 K3 hK2 K2 hK1 K1 hK0 K0
    exact ⟨rfl, rfl⟩
    )
 ·try simp only [decide_eq_true_eq, decide_eq_false_iff_not, Bool.not_eq_true', Bool.not_eq_false', Int.not_lt, Int.not_le, Int.toNat_natCast] at hc0
  first
   | (exfalso; clear hK3 K3; clear hK2 K2; clear hK1 K1; clear hK0 K0; first | omega | contradiction)
   | (
    refine SW.skip ?_
    refine hK1 _ _ _ ?_
    refine SW.seq_k ?_
    intro K5 hK5
    refine SW.seq_k ?_
    intro K6 hK6
    refine SW.region _ _ _ _ ?_
    refine RL.st ?_
    refine NV.lv1 T ?_
    refine RL.st ?_
    refine NV.p T ?_
    refine RL.st ?_
    refine NV.p T ?_
    refine RL.split 18 rfl (fun hs0 => ?_) (fun hs0 => ?_)
    ·try simp only [decide_eq_true_eq, decide_eq_false_iff_not, Bool.not_eq_true', Bool.not_eq_false', Int.not_lt, Int.not_le, Int.toNat_natCast] at hs0
     first
      | (exfalso; clear hK6 K6; clear hK5 K5; clear hK3 K3; clear hK2 K2; clear hK1 K1; clear hK0 K0; first | omega | contradiction)
      | (
       refine RL.guard_no rfl rfl rfl ?_
       refine RL.guard_no rfl rfl rfl ?_
       refine RL.st ?_
       refine NV.p T ?_
       refine RL.nil _ _ _ _ ?_
       refine hK6 _ _ _ ?_
       refine SW.cond_t rfl ?_
       refine SW.seq_k ?_
       intro K7 hK7
       refine SW.region _ _ _ _ ?_
       refine RL.st ?_
       refine NV.p T ?_
       refine RL.st ?_
       refine NV.p T ?_
       refine RL.st ?_
       refine NV.p T ?_
       refine RL.nil _ _ _ _ ?_
       refine hK7 _ _ _ ?_
       refine SW.ret ?_
       refine retQ.ret (H' := H) (RVs.tmp (by conv => lhs; whnf) (RVs.tmp (by conv => lhs; whnf) (RVs.tmp (by conv => lhs; whnf) RVs.nil))) (fun w hw => Sat.sub (by repeat first | exact List.Sublist.refl _ | apply List.Sublist.cons_cons | apply List.Sublist.cons | exact List.sublist_append_right _ _ | refine List.Sublist.trans ?_ (List.sublist_append_right _ _)) hw) ?_
       clear hK7 K7 hK6 K6 hK5 K5 hK3 K3 hK2 K2 hK1 K1 hK0 K0
       exact ⟨rfl, rfl⟩
       )
    ·try simp only [decide_eq_true_eq, decide_eq_false_iff_not, Bool.not_eq_true', Bool.not_eq_false', Int.not_lt, Int.not_le, Int.toNat_natCast] at hs0
     first
      | (exfalso; clear hK6 K6; clear hK5 K5; clear hK3 K3; clear hK2 K2; clear hK1 K1; clear hK0 K0; first | omega | contradiction)
      | (
       refine RL.st ?_
       refine NV.lv1 T ?_
       refine RL.st ?_
       refine NV.p T ?_
       refine RL.st ?_
       refine NV.p T ?_
       refine RL.nil _ _ _ _ ?_
       refine hK6 _ _ _ ?_
       refine SW.cond rfl (fun hc1 => ?_) (fun hc1 => ?_)
       ·try simp only [decide_eq_true_eq, decide_eq_false_iff_not, Bool.not_eq_true', Bool.not_eq_false', Int.not_lt, Int.not_le, Int.toNat_natCast] at hc1
        first
         | (exfalso; clear hK6 K6; clear hK5 K5; clear hK3 K3; clear hK2 K2; clear hK1 K1; clear hK0 K0; first | omega | contradiction)
         | (
          refine SW.seq_k ?_
          intro K8 hK8
          refine SW.region _ _ _ _ ?_
          refine RL.st ?_
          refine NV.p T ?_
          refine RL.st ?_
          refine NV.p T ?_
          refine RL.st ?_
          refine NV.p T ?_
          refine RL.nil _ _ _ _ ?_
          refine hK8 _ _ _ ?_
          refine SW.ret ?_
          refine retQ.ret (H' := H) (RVs.tmp (by conv => lhs; whnf) (RVs.tmp (by conv => lhs; whnf) (RVs.tmp (by conv => lhs; whnf) RVs.nil))) (fun w hw => Sat.sub (by repeat first | exact List.Sublist.refl _ | apply List.Sublist.cons_cons | apply List.Sublist.cons | exact List.sublist_append_right _ _ | refine List.Sublist.trans ?_ (List.sublist_append_right _ _)) hw) ?_
          clear hK8 K8 hK6 K6 hK5 K5 hK3 K3 hK2 K2 hK1 K1 hK0 K0
          exact ⟨rfl, rfl⟩
          )
       ·try simp only [decide_eq_true_eq, decide_eq_false_iff_not, Bool.not_eq_true', Bool.not_eq_false', Int.not_lt, Int.not_le, Int.toNat_natCast] at hc1
        first
         | (exfalso; clear hK6 K6; clear hK5 K5; clear hK3 K3; clear hK2 K2; clear hK1 K1; clear hK0 K0; first | omega | contradiction)
         | (
          refine SW.skip ?_
          refine hK5 _ _ _ ?_
          refine SW.seq_k ?_
          intro K9 hK9
          refine SW.seq_k ?_
          intro K10 hK10
          refine SW.region _ _ _ _ ?_
          refine RL.st ?_
          refine NV.lv1 T ?_
          refine RL.st ?_
          refine NV.p T ?_
          refine RL.nil _ _ _ _ ?_
          refine hK10 _ _ _ ?_
          refine SW.cond rfl (fun hc2 => ?_) (fun hc2 => ?_)
          ·try simp only [decide_eq_true_eq, decide_eq_false_iff_not, Bool.not_eq_true', Bool.not_eq_false', Int.not_lt, Int.not_le, Int.toNat_natCast] at hc2
           first
            | (exfalso; clear hK10 K10; clear hK9 K9; clear hK6 K6; clear hK5 K5; clear hK3 K3; clear hK2 K2; clear hK1 K1; clear hK0 K0; first | omega | contradiction)
            | (
             refine SW.seq_k ?_
             intro K11 hK11
             refine SW.region _ _ _ _ ?_
             refine RL.st ?_
             refine NV.p T ?_
             refine RL.st ?_
             refine NV.p T ?_
             refine RL.st ?_
             refine NV.p T ?_
             refine RL.nil _ _ _ _ ?_
             refine hK11 _ _ _ ?_
             refine SW.ret ?_
             refine retQ.ret (H' := H) (RVs.tmp (by conv => lhs; whnf) (RVs.tmp (by conv => lhs; whnf) (RVs.tmp (by conv => lhs; whnf) RVs.nil))) (fun w hw => Sat.sub (by repeat first | exact List.Sublist.refl _ | apply List.Sublist.cons_cons | apply List.Sublist.cons | exact List.sublist_append_right _ _ | refine List.Sublist.trans ?_ (List.sublist_append_right _ _)) hw) ?_
             clear hK11 K11 hK10 K10 hK9 K9 hK6 K6 hK5 K5 hK3 K3 hK2 K2 hK1 K1 hK0 K0
             exact ⟨rfl, rfl⟩
             )
          ·try simp only [decide_eq_true_eq, decide_eq_false_iff_not, Bool.not_eq_true', Bool.not_eq_false', Int.not_lt, Int.not_le, Int.toNat_natCast] at hc2
           exfalso; clear hK10 K10; clear hK9 K9; clear hK6 K6; clear hK5 K5; clear hK3 K3; clear hK2 K2; clear hK1 K1; clear hK0 K0; first | omega | contradiction
          )
       )
    )
theorem take_zero {w0 : World} {H : List Chunk} (sa : Option Addr) (n c : Nat) (es : List Int) (hR : Rd w0 H sa n c 1 (es.map (.int .u8))) (hn : n = es.length) (hm : n ≤ 140737488351232) (m : Int) (hc : chk es = 0) (h : m = 0) : SC Try.prog w0 20 #[.slice sa n c, .int .i64 m] (.row none 0 0 5 1 (([] : List Int).map (.int .u8)) :: H) (fun v H' => v = .tuple #[.slice none 0 0, .int .i64 0, .int .i64 0] ∧ H' = H) := by
 refine SC.enter Try.func20 rfl (Nat.le_of_ble_eq_true rfl) ?_
 refine SW.seq_k ?_
 intro K0 hK0
 refine SW.region _ _ _ _ ?_
 refine RL.st ?_
 refine NV.box rfl (by exact (rfl : _ = [_])) ?_
 intro b3_0
 refine RL.st ?_
 refine NV.p T ?_
 refine RL.st ?_
 refine NV.p T ?_
 refine RL.st ?_
 refine NV.p T ?_
 refine RL.nil _ _ _ _ ?_
 refine hK0 _ _ _ ?_
 refine SW.seq_k ?_
 intro K1 hK1
 refine SW.seq_k ?_
 intro K2 hK2
 refine SW.region _ _ _ _ ?_
 refine RL.st ?_
 refine NV.p T ?_
 refine RL.st ?_
 refine NV.call rfl rfl rfl fun18 rfl rfl ((check sa n c es (by repeat first | exact hR | apply Rd.cons | apply Rd.app) hn hm).mono (fun v H' h => by rw [hc] at h; exact h)) ?_
 rintro _ _ ⟨rfl, e⟩; obtain rfl := e.symm
 refine RL.st ?_
 refine NV.p T ?_
 refine RL.nil _ _ _ _ ?_
 refine hK2 _ _ _ ?_
 refine SW.seq_k ?_
 intro K3 hK3
 refine SW.region _ _ _ _ ?_
 refine RL.st ?_
 refine NV.p T ?_
 refine RL.st ?_
 refine NV.p T ?_
 refine RL.nil _ _ _ _ ?_
 refine hK3 _ _ _ ?_
 refine SW.cond rfl (fun hc0 => ?_) (fun hc0 => ?_)
 ·try simp only [decide_eq_true_eq, decide_eq_false_iff_not, Bool.not_eq_true', Bool.not_eq_false', Int.not_lt, Int.not_le, Int.toNat_natCast] at hc0
  first
   | (exfalso; clear hK3 K3; clear hK2 K2; clear hK1 K1; clear hK0 K0; first | omega | contradiction)
   | (
    refine SW.seq_k ?_
    intro K4 hK4
    refine SW.region _ _ _ _ ?_
    refine RL.st ?_
    refine NV.p T ?_
    refine RL.st ?_
    refine NV.p T ?_
    refine RL.st ?_
    refine NV.p T ?_
    refine RL.st ?_
    refine NV.p T ?_
    refine RL.nil _ _ _ _ ?_
    refine hK4 _ _ _ ?_
    refine SW.ret ?_
    refine retQ.ret (H' := H) (RVs.tmp (by conv => lhs; whnf) (RVs.tmp (by conv => lhs; whnf) (RVs.tmp (by conv => lhs; whnf) RVs.nil))) (fun w hw => Sat.sub (by repeat first | exact List.Sublist.refl _ | apply List.Sublist.cons_cons | apply List.Sublist.cons | exact List.sublist_append_right _ _ | refine List.Sublist.trans ?_ (List.sublist_append_right _ _)) hw) ?_
    clear hK4 K4 hK3 K3 hK2 K2 hK1 K1 hK0 K0
    exact ⟨rfl, rfl⟩
    )
 ·try simp only [decide_eq_true_eq, decide_eq_false_iff_not, Bool.not_eq_true', Bool.not_eq_false', Int.not_lt, Int.not_le, Int.toNat_natCast] at hc0
  first
   | (exfalso; clear hK3 K3; clear hK2 K2; clear hK1 K1; clear hK0 K0; first | omega | contradiction)
   | (
    refine SW.skip ?_
    refine hK1 _ _ _ ?_
    refine SW.seq_k ?_
    intro K5 hK5
    refine SW.seq_k ?_
    intro K6 hK6
    refine SW.region _ _ _ _ ?_
    refine RL.st ?_
    refine NV.lv1 T ?_
    refine RL.st ?_
    refine NV.p T ?_
    refine RL.st ?_
    refine NV.p T ?_
    refine RL.split 18 rfl (fun hs0 => ?_) (fun hs0 => ?_)
    ·try simp only [decide_eq_true_eq, decide_eq_false_iff_not, Bool.not_eq_true', Bool.not_eq_false', Int.not_lt, Int.not_le, Int.toNat_natCast] at hs0
     first
      | (exfalso; clear hK6 K6; clear hK5 K5; clear hK3 K3; clear hK2 K2; clear hK1 K1; clear hK0 K0; first | omega | contradiction)
      | (
       refine RL.guard_no rfl rfl rfl ?_
       refine RL.guard_no rfl rfl rfl ?_
       refine RL.st ?_
       refine NV.p T ?_
       refine RL.nil _ _ _ _ ?_
       refine hK6 _ _ _ ?_
       refine SW.cond_t rfl ?_
       refine SW.seq_k ?_
       intro K7 hK7
       refine SW.region _ _ _ _ ?_
       refine RL.st ?_
       refine NV.p T ?_
       refine RL.st ?_
       refine NV.p T ?_
       refine RL.st ?_
       refine NV.p T ?_
       refine RL.nil _ _ _ _ ?_
       refine hK7 _ _ _ ?_
       refine SW.ret ?_
       refine retQ.ret (H' := H) (RVs.tmp (by conv => lhs; whnf) (RVs.tmp (by conv => lhs; whnf) (RVs.tmp (by conv => lhs; whnf) RVs.nil))) (fun w hw => Sat.sub (by repeat first | exact List.Sublist.refl _ | apply List.Sublist.cons_cons | apply List.Sublist.cons | exact List.sublist_append_right _ _ | refine List.Sublist.trans ?_ (List.sublist_append_right _ _)) hw) ?_
       clear hK7 K7 hK6 K6 hK5 K5 hK3 K3 hK2 K2 hK1 K1 hK0 K0
       exact ⟨rfl, rfl⟩
       )
    ·try simp only [decide_eq_true_eq, decide_eq_false_iff_not, Bool.not_eq_true', Bool.not_eq_false', Int.not_lt, Int.not_le, Int.toNat_natCast] at hs0
     first
      | (exfalso; clear hK6 K6; clear hK5 K5; clear hK3 K3; clear hK2 K2; clear hK1 K1; clear hK0 K0; first | omega | contradiction)
      | (
       refine RL.st ?_
       refine NV.lv1 T ?_
       refine RL.st ?_
       refine NV.p T ?_
       refine RL.st ?_
       refine NV.p T ?_
       refine RL.nil _ _ _ _ ?_
       refine hK6 _ _ _ ?_
       refine SW.cond rfl (fun hc1 => ?_) (fun hc1 => ?_)
       ·try simp only [decide_eq_true_eq, decide_eq_false_iff_not, Bool.not_eq_true', Bool.not_eq_false', Int.not_lt, Int.not_le, Int.toNat_natCast] at hc1
        first
         | (exfalso; clear hK6 K6; clear hK5 K5; clear hK3 K3; clear hK2 K2; clear hK1 K1; clear hK0 K0; first | omega | contradiction)
         | (
          refine SW.seq_k ?_
          intro K8 hK8
          refine SW.region _ _ _ _ ?_
          refine RL.st ?_
          refine NV.p T ?_
          refine RL.st ?_
          refine NV.p T ?_
          refine RL.st ?_
          refine NV.p T ?_
          refine RL.nil _ _ _ _ ?_
          refine hK8 _ _ _ ?_
          refine SW.ret ?_
          refine retQ.ret (H' := H) (RVs.tmp (by conv => lhs; whnf) (RVs.tmp (by conv => lhs; whnf) (RVs.tmp (by conv => lhs; whnf) RVs.nil))) (fun w hw => Sat.sub (by repeat first | exact List.Sublist.refl _ | apply List.Sublist.cons_cons | apply List.Sublist.cons | exact List.sublist_append_right _ _ | refine List.Sublist.trans ?_ (List.sublist_append_right _ _)) hw) ?_
          clear hK8 K8 hK6 K6 hK5 K5 hK3 K3 hK2 K2 hK1 K1 hK0 K0
          exact ⟨rfl, rfl⟩
          )
       ·try simp only [decide_eq_true_eq, decide_eq_false_iff_not, Bool.not_eq_true', Bool.not_eq_false', Int.not_lt, Int.not_le, Int.toNat_natCast] at hc1
        first
         | (exfalso; clear hK6 K6; clear hK5 K5; clear hK3 K3; clear hK2 K2; clear hK1 K1; clear hK0 K0; first | omega | contradiction)
         | (
          refine SW.skip ?_
          refine hK5 _ _ _ ?_
          refine SW.seq_k ?_
          intro K9 hK9
          refine SW.seq_k ?_
          intro K10 hK10
          refine SW.region _ _ _ _ ?_
          refine RL.st ?_
          refine NV.lv1 T ?_
          refine RL.st ?_
          refine NV.p T ?_
          refine RL.nil _ _ _ _ ?_
          refine hK10 _ _ _ ?_
          refine SW.cond rfl (fun hc2 => ?_) (fun hc2 => ?_)
          ·try simp only [decide_eq_true_eq, decide_eq_false_iff_not, Bool.not_eq_true', Bool.not_eq_false', Int.not_lt, Int.not_le, Int.toNat_natCast] at hc2
           first
            | (exfalso; clear hK10 K10; clear hK9 K9; clear hK6 K6; clear hK5 K5; clear hK3 K3; clear hK2 K2; clear hK1 K1; clear hK0 K0; first | omega | contradiction)
            | (
             refine SW.seq_k ?_
             intro K11 hK11
             refine SW.region _ _ _ _ ?_
             refine RL.st ?_
             refine NV.p T ?_
             refine RL.st ?_
             refine NV.p T ?_
             refine RL.st ?_
             refine NV.p T ?_
             refine RL.nil _ _ _ _ ?_
             refine hK11 _ _ _ ?_
             refine SW.ret ?_
             refine retQ.ret (H' := H) (RVs.tmp (by conv => lhs; whnf) (RVs.tmp (by conv => lhs; whnf) (RVs.tmp (by conv => lhs; whnf) RVs.nil))) (fun w hw => Sat.sub (by repeat first | exact List.Sublist.refl _ | apply List.Sublist.cons_cons | apply List.Sublist.cons | exact List.sublist_append_right _ _ | refine List.Sublist.trans ?_ (List.sublist_append_right _ _)) hw) ?_
             clear hK11 K11 hK10 K10 hK9 K9 hK6 K6 hK5 K5 hK3 K3 hK2 K2 hK1 K1 hK0 K0
             exact ⟨rfl, rfl⟩
             )
          ·try simp only [decide_eq_true_eq, decide_eq_false_iff_not, Bool.not_eq_true', Bool.not_eq_false', Int.not_lt, Int.not_le, Int.toNat_natCast] at hc2
           exfalso; clear hK10 K10; clear hK9 K9; clear hK6 K6; clear hK5 K5; clear hK3 K3; clear hK2 K2; clear hK1 K1; clear hK0 K0; first | omega | contradiction
          )
       )
    )
theorem take_ok {w0 : World} {H : List Chunk} (sa : Option Addr) (n c : Nat) (es : List Int) (hR : Rd w0 H sa n c 1 (es.map (.int .u8))) (hn : n = es.length) (hm : n ≤ 140737488351232) (m : Int) (hc : chk es = 0) (h0 : 0 < m) (h1 : m ≤ 65536) : SC Try.prog w0 20 #[.slice sa n c, .int .i64 m] (.row none 0 0 5 1 (([] : List Int).map (.int .u8)) :: H) (fun v H' => RV3 w0 H (takeF m [] [] es).1 (takeF m [] [] es).2.1 (takeF m [] [] es).2.2 v H') := by
 refine SC.enter Try.func20 rfl (Nat.le_of_ble_eq_true rfl) ?_
 refine SW.seq_k ?_
 intro K0 hK0
 refine SW.region _ _ _ _ ?_
 refine RL.st ?_
 refine NV.box rfl (by exact (rfl : _ = [_])) ?_
 intro b3_0
 refine RL.st ?_
 refine NV.p T ?_
 refine RL.st ?_
 refine NV.p T ?_
 refine RL.st ?_
 refine NV.p T ?_
 refine RL.nil _ _ _ _ ?_
 refine hK0 _ _ _ ?_
 refine SW.seq_k ?_
 intro K1 hK1
 refine SW.seq_k ?_
 intro K2 hK2
 refine SW.region _ _ _ _ ?_
 refine RL.st ?_
 refine NV.p T ?_
 refine RL.st ?_
 refine NV.call rfl rfl rfl fun18 rfl rfl ((check sa n c es (by repeat first | exact hR | apply Rd.cons | apply Rd.app) hn hm).mono (fun v H' h => by rw [hc] at h; exact h)) ?_
 rintro _ _ ⟨rfl, e⟩; obtain rfl := e.symm
 refine RL.st ?_
 refine NV.p T ?_
 refine RL.nil _ _ _ _ ?_
 refine hK2 _ _ _ ?_
 refine SW.seq_k ?_
 intro K3 hK3
 refine SW.region _ _ _ _ ?_
 refine RL.st ?_
 refine NV.p T ?_
 refine RL.st ?_
 refine NV.p T ?_
 refine RL.nil _ _ _ _ ?_
 refine hK3 _ _ _ ?_
 refine SW.cond rfl (fun hc0 => ?_) (fun hc0 => ?_)
 ·try simp only [decide_eq_true_eq, decide_eq_false_iff_not, Bool.not_eq_true', Bool.not_eq_false', Int.not_lt, Int.not_le, Int.toNat_natCast] at hc0
  first
   | (exfalso; clear hK3 K3; clear hK2 K2; clear hK1 K1; clear hK0 K0; first | omega | contradiction | (exfalso; rcases hcase with ⟨g1, g⟩ | ⟨g1, g2, g⟩ | ⟨g1, g2, g⟩ <;> omega))
   | (
    refine SW.seq_k ?_
    intro K4 hK4
    refine SW.region _ _ _ _ ?_
    refine RL.st ?_
    refine NV.p T ?_
    refine RL.st ?_
    refine NV.p T ?_
    refine RL.st ?_
    refine NV.p T ?_
    refine RL.st ?_
    refine NV.p T ?_
    refine RL.nil _ _ _ _ ?_
    refine hK4 _ _ _ ?_
    refine SW.sat (fun hs => ?_)
    refine SW.ret ?_
    refine retQ.ret (RVs.tmp (by conv => lhs; whnf) (RVs.tmp (by conv => lhs; whnf) (RVs.tmp (by conv => lhs; whnf) RVs.nil))) (fun w hw => hw) ?_
    clear hK4 K4 hK3 K3 hK2 K2 hK1 K1 hK0 K0
    rcases hcase with ⟨g1, g⟩ | ⟨g1, g2, g⟩ | ⟨g1, g2, g⟩ <;> first
      | (exfalso; omega)
      | (rw [g]; subst g1; exact ⟨_, rfl, none, 0, 0, rfl, rfl, Rd.nilS, [_, _, _, _], rfl⟩)
      | (rw [g]; obtain rfl := hL; exact ⟨_, rfl, Res.row hs (At.head _ _) (G := [_, _, _, _]) rfl⟩)
    )
 ·try simp only [decide_eq_true_eq, decide_eq_false_iff_not, Bool.not_eq_true', Bool.not_eq_false', Int.not_lt, Int.not_le, Int.toNat_natCast] at hc0
  first
   | (exfalso; clear hK3 K3; clear hK2 K2; clear hK1 K1; clear hK0 K0; first | omega | contradiction | (exfalso; rcases hcase with ⟨g1, g⟩ | ⟨g1, g2, g⟩ | ⟨g1, g2, g⟩ <;> omega))
   | (
    refine SW.skip ?_
    refine hK1 _ _ _ ?_
    refine SW.seq_k ?_
    intro K5 hK5
    refine SW.seq_k ?_
    intro K6 hK6
    refine SW.region _ _ _ _ ?_
    refine RL.st ?_
    refine NV.lv1 T ?_
    refine RL.st ?_
    refine NV.p T ?_
    refine RL.st ?_
    refine NV.p T ?_
    refine RL.split 18 rfl (fun hs0 => ?_) (fun hs0 => ?_)
    ·try simp only [decide_eq_true_eq, decide_eq_false_iff_not, Bool.not_eq_true', Bool.not_eq_false', Int.not_lt, Int.not_le, Int.toNat_natCast] at hs0
     first
      | (exfalso; clear hK6 K6; clear hK5 K5; clear hK3 K3; clear hK2 K2; clear hK1 K1; clear hK0 K0; first | omega | contradiction | (exfalso; rcases hcase with ⟨g1, g⟩ | ⟨g1, g2, g⟩ | ⟨g1, g2, g⟩ <;> omega))
      | (
       refine RL.guard_no rfl rfl rfl ?_
       refine RL.guard_no rfl rfl rfl ?_
       refine RL.st ?_
       refine NV.p T ?_
       refine RL.nil _ _ _ _ ?_
       refine hK6 _ _ _ ?_
       refine SW.cond_t rfl ?_
       refine SW.seq_k ?_
       intro K7 hK7
       refine SW.region _ _ _ _ ?_
       refine RL.st ?_
       refine NV.p T ?_
       refine RL.st ?_
       refine NV.p T ?_
       refine RL.st ?_
       refine NV.p T ?_
       refine RL.nil _ _ _ _ ?_
       refine hK7 _ _ _ ?_
       refine SW.sat (fun hs => ?_)
       refine SW.ret ?_
       refine retQ.ret (RVs.tmp (by conv => lhs; whnf) (RVs.tmp (by conv => lhs; whnf) (RVs.tmp (by conv => lhs; whnf) RVs.nil))) (fun w hw => hw) ?_
       clear hK7 K7 hK6 K6 hK5 K5 hK3 K3 hK2 K2 hK1 K1 hK0 K0
       rcases hcase with ⟨g1, g⟩ | ⟨g1, g2, g⟩ | ⟨g1, g2, g⟩ <;> first
         | (exfalso; omega)
         | (rw [g]; subst g1; exact ⟨_, rfl, none, 0, 0, rfl, rfl, Rd.nilS, [_, _, _, _], rfl⟩)
         | (rw [g]; obtain rfl := hL; exact ⟨_, rfl, Res.row hs (At.head _ _) (G := [_, _, _, _]) rfl⟩)
       )
    ·try simp only [decide_eq_true_eq, decide_eq_false_iff_not, Bool.not_eq_true', Bool.not_eq_false', Int.not_lt, Int.not_le, Int.toNat_natCast] at hs0
     first
      | (exfalso; clear hK6 K6; clear hK5 K5; clear hK3 K3; clear hK2 K2; clear hK1 K1; clear hK0 K0; first | omega | contradiction | (exfalso; rcases hcase with ⟨g1, g⟩ | ⟨g1, g2, g⟩ | ⟨g1, g2, g⟩ <;> omega))
      | (
       refine RL.st ?_
       refine NV.lv1 T ?_
       refine RL.st ?_
       refine NV.p T ?_
       refine RL.st ?_
       refine NV.p T ?_
       refine RL.nil _ _ _ _ ?_
       refine hK6 _ _ _ ?_
       refine SW.cond rfl (fun hc1 => ?_) (fun hc1 => ?_)
       ·try simp only [decide_eq_true_eq, decide_eq_false_iff_not, Bool.not_eq_true', Bool.not_eq_false', Int.not_lt, Int.not_le, Int.toNat_natCast] at hc1
        first
         | (exfalso; clear hK6 K6; clear hK5 K5; clear hK3 K3; clear hK2 K2; clear hK1 K1; clear hK0 K0; first | omega | contradiction | (exfalso; rcases hcase with ⟨g1, g⟩ | ⟨g1, g2, g⟩ | ⟨g1, g2, g⟩ <;> omega))
         | (
          refine SW.seq_k ?_
          intro K8 hK8
          refine SW.region _ _ _ _ ?_
          refine RL.st ?_
          refine NV.p T ?_
          refine RL.st ?_
          refine NV.p T ?_
          refine RL.st ?_
          refine NV.p T ?_
          refine RL.nil _ _ _ _ ?_
          refine hK8 _ _ _ ?_
          refine SW.sat (fun hs => ?_)
          refine SW.ret ?_
          refine retQ.ret (RVs.tmp (by conv => lhs; whnf) (RVs.tmp (by conv => lhs; whnf) (RVs.tmp (by conv => lhs; whnf) RVs.nil))) (fun w hw => hw) ?_
          clear hK8 K8 hK6 K6 hK5 K5 hK3 K3 hK2 K2 hK1 K1 hK0 K0
          rcases hcase with ⟨g1, g⟩ | ⟨g1, g2, g⟩ | ⟨g1, g2, g⟩ <;> first
            | (exfalso; omega)
            | (rw [g]; subst g1; exact ⟨_, rfl, none, 0, 0, rfl, rfl, Rd.nilS, [_, _, _, _], rfl⟩)
            | (rw [g]; obtain rfl := hL; exact ⟨_, rfl, Res.row hs (At.head _ _) (G := [_, _, _, _]) rfl⟩)
          )
       ·try simp only [decide_eq_true_eq, decide_eq_false_iff_not, Bool.not_eq_true', Bool.not_eq_false', Int.not_lt, Int.not_le, Int.toNat_natCast] at hc1
        first
         | (exfalso; clear hK6 K6; clear hK5 K5; clear hK3 K3; clear hK2 K2; clear hK1 K1; clear hK0 K0; first | omega | contradiction | (exfalso; rcases hcase with ⟨g1, g⟩ | ⟨g1, g2, g⟩ | ⟨g1, g2, g⟩ <;> omega))
         | (
          refine SW.skip ?_
          refine hK5 _ _ _ ?_
          refine SW.seq_k ?_
          intro K9 hK9
          refine SW.seq_k ?_
          intro K10 hK10
          refine SW.region _ _ _ _ ?_
          refine RL.st ?_
          refine NV.lv1 T ?_
          refine RL.st ?_
          refine NV.p T ?_
          refine RL.nil _ _ _ _ ?_
          refine hK10 _ _ _ ?_
          refine SW.cond rfl (fun hc2 => ?_) (fun hc2 => ?_)
          ·try simp only [decide_eq_true_eq, decide_eq_false_iff_not, Bool.not_eq_true', Bool.not_eq_false', Int.not_lt, Int.not_le, Int.toNat_natCast] at hc2
           first
            | (exfalso; clear hK10 K10; clear hK9 K9; clear hK6 K6; clear hK5 K5; clear hK3 K3; clear hK2 K2; clear hK1 K1; clear hK0 K0; first | omega | contradiction | (exfalso; rcases hcase with ⟨g1, g⟩ | ⟨g1, g2, g⟩ | ⟨g1, g2, g⟩ <;> omega))
            | (
             refine SW.seq_k ?_
             intro K11 hK11
             refine SW.region _ _ _ _ ?_
             refine RL.st ?_
             refine NV.p T ?_
             refine RL.st ?_
             refine NV.p T ?_
             refine RL.st ?_
             refine NV.p T ?_
             refine RL.nil _ _ _ _ ?_
             refine hK11 _ _ _ ?_
             refine SW.sat (fun hs => ?_)
             refine SW.ret ?_
             refine retQ.ret (RVs.tmp (by conv => lhs; whnf) (RVs.tmp (by conv => lhs; whnf) (RVs.tmp (by conv => lhs; whnf) RVs.nil))) (fun w hw => hw) ?_
             clear hK11 K11 hK10 K10 hK9 K9 hK6 K6 hK5 K5 hK3 K3 hK2 K2 hK1 K1 hK0 K0
             rcases hcase with ⟨g1, g⟩ | ⟨g1, g2, g⟩ | ⟨g1, g2, g⟩ <;> first
               | (exfalso; omega)
               | (rw [g]; subst g1; exact ⟨_, rfl, none, 0, 0, rfl, rfl, Rd.nilS, [_, _, _, _], rfl⟩)
               | (rw [g]; obtain rfl := hL; exact ⟨_, rfl, Res.row hs (At.head _ _) (G := [_, _, _, _]) rfl⟩)
             )
          ·try simp only [decide_eq_true_eq, decide_eq_false_iff_not, Bool.not_eq_true', Bool.not_eq_false', Int.not_lt, Int.not_le, Int.toNat_natCast] at hc2
           first
            | (exfalso; clear hK10 K10; clear hK9 K9; clear hK6 K6; clear hK5 K5; clear hK3 K3; clear hK2 K2; clear hK1 K1; clear hK0 K0; first | omega | contradiction | (exfalso; rcases hcase with ⟨g1, g⟩ | ⟨g1, g2, g⟩ | ⟨g1, g2, g⟩ <;> omega))
            | (
             refine SW.skip ?_
             refine hK9 _ _ _ ?_
             refine SW.seq_k ?_
             intro K12 hK12
             refine SW.region _ _ _ _ ?_
             refine RL.st ?_
             refine NV.alloc T rfl rfl rfl (by exact (rfl : _ = [_])) ?_
             intro b8_1
             refine RL.nil _ _ _ _ ?_
             refine hK12 _ _ _ ?_
             refine SW.seq_k ?_
             intro K13 hK13
             refine SW.region _ _ _ _ ?_
             refine RL.st ?_
             refine NV.alloc T rfl rfl rfl (by exact (rfl : _ = [_])) ?_
             intro b9_2
             refine RL.st ?_
             refine NV.store_var1 T rfl rfl rfl rfl (by conv => lhs; whnf) rfl (by repeat first | exact At.head _ _ | assumption | exact At.put (by assumption) _ | apply At.tail | apply At.app) rfl (by exact (rfl : _ = [_])) ?_
             refine RL.nil _ _ _ _ ?_
             refine hK13 _ _ _ ?_
             refine SW.seq_k ?_
             intro K14 hK14
             refine SW.region _ _ _ _ ?_
             refine RL.st ?_
             refine NV.p T ?_
             refine RL.st ?_
             refine NV.p T ?_
             refine RL.st ?_
             refine NV.call rfl rfl rfl fun32 rfl rfl (SC.perm (by exact (List.perm_append_comm (l₁ := [_, _, _]) (l₂ := [_])).append_right H) (read_take _ _ _ sa n c es hR hn hm m h0 h1)) ?_
             rintro _ _ ⟨e, sr, L, cr, o, tk, rfl, hL, eH, hcase⟩; obtain rfl := eH.symm
             refine RL.st ?_
             refine NV.p T ?_
             refine RL.nil _ _ _ _ ?_
             refine hK14 _ _ _ ?_
             refine SW.seq_k ?_
             intro K15 hK15
             refine SW.block ?_
             refine SW.seq_k ?_
             intro K16 hK16
             refine SW.region _ _ _ _ ?_
             refine RL.st ?_
             refine NV.p T ?_
             refine RL.st ?_
             refine NV.p T ?_
             refine RL.st ?_
             refine NV.p T ?_
             refine RL.nil _ _ _ _ ?_
             refine hK16 _ _ _ ?_
             refine SW.cond rfl (fun hc3 => ?_) (fun hc3 => ?_)
             ·try simp only [decide_eq_true_eq, decide_eq_false_iff_not, Bool.not_eq_true', Bool.not_eq_false', Int.not_lt, Int.not_le, Int.toNat_natCast] at hc3
              first
               | (exfalso; clear hK16 K16; clear hK15 K15; clear hK14 K14; clear hK13 K13; clear hK12 K12; clear hK10 K10; clear hK9 K9; clear hK6 K6; clear hK5 K5; clear hK3 K3; clear hK2 K2; clear hK1 K1; clear hK0 K0; first | omega | contradiction | (exfalso; rcases hcase with ⟨g1, g⟩ | ⟨g1, g2, g⟩ | ⟨g1, g2, g⟩ <;> omega))
               | (
                refine SW.seq_k ?_
                intro K17 hK17
                refine SW.region _ _ _ _ ?_
                refine RL.st ?_
                refine NV.p T ?_
                refine RL.st ?_
                refine NV.p T ?_
                refine RL.st ?_
                refine NV.p T ?_
                refine RL.st ?_
                refine NV.p T ?_
                refine RL.nil _ _ _ _ ?_
                refine hK17 _ _ _ ?_
                refine SW.sat (fun hs => ?_)
                refine SW.ret ?_
                refine retQ.ret (RVs.tmp (by conv => lhs; whnf) (RVs.tmp (by conv => lhs; whnf) (RVs.tmp (by conv => lhs; whnf) RVs.nil))) (fun w hw => hw) ?_
                clear hK17 K17 hK16 K16 hK15 K15 hK14 K14 hK13 K13 hK12 K12 hK10 K10 hK9 K9 hK6 K6 hK5 K5 hK3 K3 hK2 K2 hK1 K1 hK0 K0
                rcases hcase with ⟨g1, g⟩ | ⟨g1, g2, g⟩ | ⟨g1, g2, g⟩ <;> first
                  | (exfalso; omega)
                  | (rw [g]; subst g1; exact ⟨_, rfl, none, 0, 0, rfl, rfl, Rd.nilS, [_, _, _, _], rfl⟩)
                  | (rw [g]; obtain rfl := hL; exact ⟨_, rfl, Res.row hs (At.head _ _) (G := [_, _, _, _]) rfl⟩)
                )
             ·try simp only [decide_eq_true_eq, decide_eq_false_iff_not, Bool.not_eq_true', Bool.not_eq_false', Int.not_lt, Int.not_le, Int.toNat_natCast] at hc3
              first
               | (exfalso; clear hK16 K16; clear hK15 K15; clear hK14 K14; clear hK13 K13; clear hK12 K12; clear hK10 K10; clear hK9 K9; clear hK6 K6; clear hK5 K5; clear hK3 K3; clear hK2 K2; clear hK1 K1; clear hK0 K0; first | omega | contradiction | (exfalso; rcases hcase with ⟨g1, g⟩ | ⟨g1, g2, g⟩ | ⟨g1, g2, g⟩ <;> omega))
               | (
                refine SW.seq_k ?_
                intro K18 hK18
                refine SW.region _ _ _ _ ?_
                refine RL.st ?_
                refine NV.lv1 T ?_
                refine RL.st ?_
                refine NV.p T ?_
                refine RL.st ?_
                refine NV.lv1 T ?_
                refine RL.st ?_
                refine NV.p T ?_
                refine RL.st ?_
                refine NV.p T ?_
                refine RL.nil _ _ _ _ ?_
                refine hK18 _ _ _ ?_
                refine SW.cond rfl (fun hc4 => ?_) (fun hc4 => ?_)
                ·try simp only [decide_eq_true_eq, decide_eq_false_iff_not, Bool.not_eq_true', Bool.not_eq_false', Int.not_lt, Int.not_le, Int.toNat_natCast] at hc4
                 first
                  | (exfalso; clear hK18 K18; clear hK16 K16; clear hK15 K15; clear hK14 K14; clear hK13 K13; clear hK12 K12; clear hK10 K10; clear hK9 K9; clear hK6 K6; clear hK5 K5; clear hK3 K3; clear hK2 K2; clear hK1 K1; clear hK0 K0; first | omega | contradiction | (exfalso; rcases hcase with ⟨g1, g⟩ | ⟨g1, g2, g⟩ | ⟨g1, g2, g⟩ <;> omega))
                  | (
                   refine SW.seq_k ?_
                   intro K19 hK19
                   refine SW.region _ _ _ _ ?_
                   refine RL.st ?_
                   refine NV.p T ?_
                   refine RL.st ?_
                   refine NV.p T ?_
                   refine RL.st ?_
                   refine NV.p T ?_
                   refine RL.nil _ _ _ _ ?_
                   refine hK19 _ _ _ ?_
                   refine SW.sat (fun hs => ?_)
                   refine SW.ret ?_
                   refine retQ.ret (RVs.tmp (by conv => lhs; whnf) (RVs.tmp (by conv => lhs; whnf) (RVs.tmp (by conv => lhs; whnf) RVs.nil))) (fun w hw => hw) ?_
                   clear hK19 K19 hK18 K18 hK16 K16 hK15 K15 hK14 K14 hK13 K13 hK12 K12 hK10 K10 hK9 K9 hK6 K6 hK5 K5 hK3 K3 hK2 K2 hK1 K1 hK0 K0
                   rcases hcase with ⟨g1, g⟩ | ⟨g1, g2, g⟩ | ⟨g1, g2, g⟩ <;> first
                     | (exfalso; omega)
                     | (rw [g]; subst g1; exact ⟨_, rfl, none, 0, 0, rfl, rfl, Rd.nilS, [_, _, _, _], rfl⟩)
                     | (rw [g]; obtain rfl := hL; exact ⟨_, rfl, Res.row hs (At.head _ _) (G := [_, _, _, _]) rfl⟩)
                   )
                ·try simp only [decide_eq_true_eq, decide_eq_false_iff_not, Bool.not_eq_true', Bool.not_eq_false', Int.not_lt, Int.not_le, Int.toNat_natCast] at hc4
                 first
                  | (exfalso; clear hK18 K18; clear hK16 K16; clear hK15 K15; clear hK14 K14; clear hK13 K13; clear hK12 K12; clear hK10 K10; clear hK9 K9; clear hK6 K6; clear hK5 K5; clear hK3 K3; clear hK2 K2; clear hK1 K1; clear hK0 K0; first | omega | contradiction | (exfalso; rcases hcase with ⟨g1, g⟩ | ⟨g1, g2, g⟩ | ⟨g1, g2, g⟩ <;> omega))
                  | (
                   refine SW.skip ?_
                   refine hK15 _ _ _ ?_
                   refine SW.seq_k ?_
                   intro K20 hK20
                   refine SW.draw [(36, 0), (37, 1), (4, 2), (5, 3), (6, 4)] [[], [], [0], [1, 2, 0], [3, 1, 2, 0]] mixed (by kernel_rfl) (by kernel_rfl) ?_
                   refine RD.q rfl rfl (Gd.none rfl) (by first | exact QV.load_var1 T rfl rfl rfl rfl (by repeat first | exact At.head _ _ | assumption | exact At.put (by assumption) _ | apply At.tail | apply At.app) rfl | exact QV.load_varN T rfl rfl rfl rfl rfl (by repeat first | exact At.head _ _ | assumption | exact At.put (by assumption) _ | apply At.tail | apply At.app) (by exact (rfl : _ = [_])) rfl | exact QV.load_elem T rfl rfl rfl rfl (by assumption) (by first | exact map_get _ _ (by omega) | assumption)) ?_
                   refine RD.q rfl rfl (Gd.none rfl) (by first | exact QV.load_var1 T rfl rfl rfl rfl (by repeat first | exact At.head _ _ | assumption | exact At.put (by assumption) _ | apply At.tail | apply At.app) rfl | exact QV.load_varN T rfl rfl rfl rfl rfl (by repeat first | exact At.head _ _ | assumption | exact At.put (by assumption) _ | apply At.tail | apply At.app) (by exact (rfl : _ = [_])) rfl | exact QV.load_elem T rfl rfl rfl rfl (by assumption) (by first | exact map_get _ _ (by omega) | assumption)) ?_
                   refine RD.q rfl rfl (Gd.none rfl) (pev_sound T (by conv => lhs; whnf; arg 1; whnf)) ?_
                   refine RD.q rfl rfl (Gd.none rfl) (pev_sound T (by conv => lhs; whnf; arg 1; whnf)) ?_
                   refine RD.q rfl rfl (Gd.none rfl) (pev_sound T (by conv => lhs; whnf; arg 1; whnf)) ?_
                   refine RD.k rfl rfl ?_
                   refine hK20 _ _ _ ?_
                   refine SW.sat (fun hs => ?_)
                   refine SW.ret ?_
                   refine retQ.ret (RVs.tmp (by conv => lhs; whnf) (RVs.tmp (by conv => lhs; whnf) (RVs.tmp (by conv => lhs; whnf) RVs.nil))) (fun w hw => hw) ?_
                   clear hK20 K20 hK18 K18 hK16 K16 hK15 K15 hK14 K14 hK13 K13 hK12 K12 hK10 K10 hK9 K9 hK6 K6 hK5 K5 hK3 K3 hK2 K2 hK1 K1 hK0 K0
                   rcases hcase with ⟨g1, g⟩ | ⟨g1, g2, g⟩ | ⟨g1, g2, g⟩ <;> first
                     | (exfalso; omega)
                     | (rw [g]; subst g1; exact ⟨_, rfl, none, 0, 0, rfl, rfl, Rd.nilS, [_, _, _, _], rfl⟩)
                     | (rw [g]; obtain rfl := hL; exact ⟨_, rfl, Res.row hs (At.head _ _) (G := [_, _, _, _]) rfl⟩)
                   )
                )
             )
          )
       )
    )
theorem sTake {w0 : World} {H : List Chunk} (sa : Option Addr) (n c : Nat) (es : List Int) (hR : Rd w0 H sa n c 1 (es.map (.int .u8))) (hn : n = es.length) (hm : n ≤ 140737488351232) (m : Int) : SC Try.prog w0 20 #[.slice sa n c, .int .i64 m] H (fun v H' => RV3 w0 H (takeV es m).1 (takeV es m).2.1 (takeV es m).2.2 v H') := by
  refine SC.nilrow 5 1 ?_
  by_cases hc : chk es = 0
  · by_cases h : 0 ≤ m ∧ m ≤ 65536
    · have e : takeV es m = takeF m [] [] es := by unfold takeV; rw [if_pos hc, if_pos h]
      rw [e]
      by_cases hz : m = 0
      · refine (take_zero sa n c es hR hn hm m hc hz).mono ?_
        rw [hz, takeF_zero]
        rintro _ _ ⟨rfl, rfl⟩; exact ⟨_, rfl, Res.nil⟩
      · exact take_ok sa n c es hR hn hm m hc (by omega) h.2
    · have e : takeV es m = ([], 0, 2) := by unfold takeV; rw [if_pos hc, if_neg h]
      rw [e]; exact (take_arg sa n c es hR hn hm m hc (by omega)).mono (by rintro _ _ ⟨rfl, rfl⟩; exact ⟨_, rfl, Res.nil⟩)
  · have e : takeV es m = ([], 0, 2) := if_neg hc
    rw [e]; exact (take_bad sa n c es hR hn hm m ((chk_or es).resolve_left hc)).mono (by rintro _ _ ⟨rfl, rfl⟩; exact ⟨_, rfl, Res.nil⟩)
theorem takes_no {w0 : World} {H : List Chunk} (sa : Option Addr) (n c : Nat) (es : List Int) (hR : ∀ H, Rd w0 H sa n c 1 (es.map (.int .u8))) (hn : n = es.length) (hm : n ≤ 140737488351232) (m : Int) (h : ¬ (n ≤ 3000 ∨ 65536 < n)) : SC Try.prog w0 6 #[.slice sa n c, .int .i64 m] H (fun v H' => v = .bool true ∧ H' = H) := by
 refine SC.enter Try.func6 rfl (Nat.le_of_ble_eq_true rfl) ?_
 refine SW.seq_k ?_
 intro K0 hK0
 refine SW.region _ _ _ _ ?_
 refine RL.st ?_
 refine NV.p T ?_
 refine RL.nil _ _ _ _ ?_
 refine hK0 _ _ _ ?_
 refine SW.seq_k ?_
 intro K1 hK1
 refine SW.seq_k ?_
 intro K2 hK2
 refine SW.region _ _ _ _ ?_
 refine RL.st ?_
 refine NV.call rfl rfl rfl fun9 rfl rfl (alive) ?_
 rintro _ _ ⟨rfl, e⟩; obtain rfl := e.symm
 refine RL.st ?_
 refine NV.p T ?_
 refine RL.nil _ _ _ _ ?_
 refine hK2 _ _ _ ?_
 refine SW.cond rfl (fun hc0 => ?_) (fun hc0 => ?_)
 ·try simp only [decide_eq_true_eq, decide_eq_false_iff_not, Bool.not_eq_true', Bool.not_eq_false', Int.not_lt, Int.not_le, Int.toNat_natCast] at hc0
  first
   | (exfalso; clear hK2 K2; clear hK1 K1; clear hK0 K0; first | omega | contradiction | (simp at *; omega))
   | (
    refine SW.seq_k ?_
    intro K3 hK3
    refine SW.region _ _ _ _ ?_
    refine RL.st ?_
    refine NV.p T ?_
    refine RL.nil _ _ _ _ ?_
    refine hK3 _ _ _ ?_
    refine SW.ret ?_
    refine retQ.ret (H' := H) (RVs.tmp (by conv => lhs; whnf) RVs.nil) (fun w hw => Sat.sub (by repeat first | exact List.Sublist.refl _ | apply List.Sublist.cons_cons | apply List.Sublist.cons | exact List.sublist_append_right _ _ | refine List.Sublist.trans ?_ (List.sublist_append_right _ _)) hw) ?_
    clear hK3 K3 hK2 K2 hK1 K1 hK0 K0
    first | exact ⟨rfl, rfl⟩ | (refine ⟨boolE ?_, rfl⟩; simp; done) | (refine ⟨boolE ?_, rfl⟩; simp_all; done)
    )
 ·try simp only [decide_eq_true_eq, decide_eq_false_iff_not, Bool.not_eq_true', Bool.not_eq_false', Int.not_lt, Int.not_le, Int.toNat_natCast] at hc0
  first
   | (exfalso; clear hK2 K2; clear hK1 K1; clear hK0 K0; first | omega | contradiction | (simp at *; omega))
   | (
    refine SW.skip ?_
    refine hK1 _ _ _ ?_
    refine SW.seq_k ?_
    intro K4 hK4
    refine SW.seq_k ?_
    intro K5 hK5
    refine SW.region _ _ _ _ ?_
    refine RL.st ?_
    refine NV.p T ?_
    refine RL.st ?_
    refine NV.call rfl rfl rfl fun10 rfl rfl (good sa n c) ?_
    rintro _ _ ⟨rfl, e⟩; obtain rfl := e.symm
    refine RL.st ?_
    refine NV.p T ?_
    refine RL.nil _ _ _ _ ?_
    refine hK5 _ _ _ ?_
    refine SW.cond rfl (fun hc1 => ?_) (fun hc1 => ?_)
    ·try simp only [decide_eq_true_eq, decide_eq_false_iff_not, Bool.not_eq_true', Bool.not_eq_false', Int.not_lt, Int.not_le, Int.toNat_natCast] at hc1
     first
      | (exfalso; clear hK5 K5; clear hK4 K4; clear hK2 K2; clear hK1 K1; clear hK0 K0; first | omega | contradiction | (simp at *; omega))
      | (
       refine SW.seq_k ?_
       intro K6 hK6
       refine SW.region _ _ _ _ ?_
       refine RL.st ?_
       refine NV.p T ?_
       refine RL.nil _ _ _ _ ?_
       refine hK6 _ _ _ ?_
       refine SW.ret ?_
       refine retQ.ret (H' := H) (RVs.tmp (by conv => lhs; whnf) RVs.nil) (fun w hw => Sat.sub (by repeat first | exact List.Sublist.refl _ | apply List.Sublist.cons_cons | apply List.Sublist.cons | exact List.sublist_append_right _ _ | refine List.Sublist.trans ?_ (List.sublist_append_right _ _)) hw) ?_
       clear hK6 K6 hK5 K5 hK4 K4 hK2 K2 hK1 K1 hK0 K0
       first | exact ⟨rfl, rfl⟩ | (refine ⟨boolE ?_, rfl⟩; simp; done) | (refine ⟨boolE ?_, rfl⟩; simp_all; done)
       )
    ·try simp only [decide_eq_true_eq, decide_eq_false_iff_not, Bool.not_eq_true', Bool.not_eq_false', Int.not_lt, Int.not_le, Int.toNat_natCast] at hc1
     exfalso; clear hK5 K5; clear hK4 K4; clear hK2 K2; clear hK1 K1; clear hK0 K0; first | omega | contradiction | (simp at *; omega)
    )
theorem takes_ok {w0 : World} {H : List Chunk} (sa : Option Addr) (n c : Nat) (es : List Int) (hR : ∀ H, Rd w0 H sa n c 1 (es.map (.int .u8))) (hn : n = es.length) (hm : n ≤ 140737488351232) (m : Int) (h3 : (decide (n ≤ 3000) || decide (65536 < n)) = true) : SC Try.prog w0 6 #[.slice sa n c, .int .i64 m] H (fun v H' => v = .bool true ∧ H' = H) := by
 refine SC.enter Try.func6 rfl (Nat.le_of_ble_eq_true rfl) ?_
 refine SW.seq_k ?_
 intro K0 hK0
 refine SW.region _ _ _ _ ?_
 refine RL.st ?_
 refine NV.p T ?_
 refine RL.nil _ _ _ _ ?_
 refine hK0 _ _ _ ?_
 refine SW.seq_k ?_
 intro K1 hK1
 refine SW.seq_k ?_
 intro K2 hK2
 refine SW.region _ _ _ _ ?_
 refine RL.st ?_
 refine NV.call rfl rfl rfl fun9 rfl rfl (alive) ?_
 rintro _ _ ⟨rfl, e⟩; obtain rfl := e.symm
 refine RL.st ?_
 refine NV.p T ?_
 refine RL.nil _ _ _ _ ?_
 refine hK2 _ _ _ ?_
 refine SW.cond rfl (fun hc0 => ?_) (fun hc0 => ?_)
 ·try simp only [decide_eq_true_eq, decide_eq_false_iff_not, Bool.not_eq_true', Bool.not_eq_false', Int.not_lt, Int.not_le, Int.toNat_natCast] at hc0
  first
   | (exfalso; clear hK2 K2; clear hK1 K1; clear hK0 K0; first | omega | contradiction)
   | (
    refine SW.seq_k ?_
    intro K3 hK3
    refine SW.region _ _ _ _ ?_
    refine RL.st ?_
    refine NV.p T ?_
    refine RL.nil _ _ _ _ ?_
    refine hK3 _ _ _ ?_
    refine SW.ret ?_
    refine retQ.ret (H' := H) (RVs.tmp (by conv => lhs; whnf) RVs.nil) (fun w hw => Sat.sub (by repeat first | exact List.Sublist.refl _ | apply List.Sublist.cons_cons | apply List.Sublist.cons | exact List.sublist_append_right _ _ | refine List.Sublist.trans ?_ (List.sublist_append_right _ _)) hw) ?_
    clear hK3 K3 hK2 K2 hK1 K1 hK0 K0
    first | exact ⟨rfl, rfl⟩ | (refine ⟨boolE ?_, rfl⟩; simp; done) | (refine ⟨boolE ?_, rfl⟩; simp_all; done)
    )
 ·try simp only [decide_eq_true_eq, decide_eq_false_iff_not, Bool.not_eq_true', Bool.not_eq_false', Int.not_lt, Int.not_le, Int.toNat_natCast] at hc0
  first
   | (exfalso; clear hK2 K2; clear hK1 K1; clear hK0 K0; first | omega | contradiction)
   | (
    refine SW.skip ?_
    refine hK1 _ _ _ ?_
    refine SW.seq_k ?_
    intro K4 hK4
    refine SW.seq_k ?_
    intro K5 hK5
    refine SW.region _ _ _ _ ?_
    refine RL.st ?_
    refine NV.p T ?_
    refine RL.st ?_
    refine NV.call rfl rfl rfl fun10 rfl rfl ((good sa n c).mono (fun v H' g => by rw [h3] at g; exact g)) ?_
    rintro _ _ ⟨rfl, e⟩; obtain rfl := e.symm
    refine RL.st ?_
    refine NV.p T ?_
    refine RL.nil _ _ _ _ ?_
    refine hK5 _ _ _ ?_
    refine SW.cond rfl (fun hc1 => ?_) (fun hc1 => ?_)
    ·try simp only [decide_eq_true_eq, decide_eq_false_iff_not, Bool.not_eq_true', Bool.not_eq_false', Int.not_lt, Int.not_le, Int.toNat_natCast] at hc1
     first
      | (exfalso; clear hK5 K5; clear hK4 K4; clear hK2 K2; clear hK1 K1; clear hK0 K0; first | omega | contradiction)
      | (
       refine SW.seq_k ?_
       intro K6 hK6
       refine SW.region _ _ _ _ ?_
       refine RL.st ?_
       refine NV.p T ?_
       refine RL.nil _ _ _ _ ?_
       refine hK6 _ _ _ ?_
       refine SW.ret ?_
       refine retQ.ret (H' := H) (RVs.tmp (by conv => lhs; whnf) RVs.nil) (fun w hw => Sat.sub (by repeat first | exact List.Sublist.refl _ | apply List.Sublist.cons_cons | apply List.Sublist.cons | exact List.sublist_append_right _ _ | refine List.Sublist.trans ?_ (List.sublist_append_right _ _)) hw) ?_
       clear hK6 K6 hK5 K5 hK4 K4 hK2 K2 hK1 K1 hK0 K0
       first | exact ⟨rfl, rfl⟩ | (refine ⟨boolE ?_, rfl⟩; simp; done) | (refine ⟨boolE ?_, rfl⟩; simp_all; done)
       )
    ·try simp only [decide_eq_true_eq, decide_eq_false_iff_not, Bool.not_eq_true', Bool.not_eq_false', Int.not_lt, Int.not_le, Int.toNat_natCast] at hc1
     first
      | (exfalso; clear hK5 K5; clear hK4 K4; clear hK2 K2; clear hK1 K1; clear hK0 K0; first | omega | contradiction)
      | (
       refine SW.skip ?_
       refine hK4 _ _ _ ?_
       refine SW.seq_k ?_
       intro K7 hK7
       refine SW.region _ _ _ _ ?_
       refine RL.st ?_
       refine NV.p T ?_
       refine RL.st ?_
       refine NV.p T ?_
       refine RL.st ?_
       refine NV.call rfl rfl rfl fun20 rfl rfl (sTake sa n c es (hR _) hn hm m) ?_
       rintro _ _ ⟨_, rfl, a1, n1, c1, rfl, hn1, hR1, G1, e⟩; obtain rfl := e.symm
       refine RL.st ?_
       refine NV.p T ?_
       refine RL.st ?_
       refine NV.p T ?_
       refine RL.st ?_
       refine NV.p T ?_
       refine RL.st ?_
       refine NV.p T ?_
       refine RL.st ?_
       refine NV.p T ?_
       refine RL.st ?_
       refine NV.p T ?_
       refine RL.st ?_
       refine NV.p T ?_
       refine RL.nil _ _ _ _ ?_
       refine hK7 _ _ _ ?_
       refine SW.seq_k ?_
       intro K8 hK8
       refine SW.region _ _ _ _ ?_
       refine RL.st ?_
       refine NV.p T ?_
       refine RL.st ?_
       refine NV.p T ?_
       refine RL.st ?_
       refine NV.call rfl rfl rfl fun21 rfl rfl (rTake sa n c es (hR _) hn hm m) ?_
       rintro _ _ ⟨_, rfl, a2, n2, c2, rfl, hn2, hR2, G2, e⟩; obtain rfl := e.symm
       refine RL.st ?_
       refine NV.p T ?_
       refine RL.st ?_
       refine NV.p T ?_
       refine RL.st ?_
       refine NV.p T ?_
       refine RL.st ?_
       refine NV.p T ?_
       refine RL.st ?_
       refine NV.p T ?_
       refine RL.st ?_
       refine NV.p T ?_
       refine RL.st ?_
       refine NV.p T ?_
       refine RL.nil _ _ _ _ ?_
       refine hK8 _ _ _ ?_
       refine SW.seq_k ?_
       intro K9 hK9
       refine SW.region _ _ _ _ ?_
       refine RL.st ?_
       refine NV.p T ?_
       refine RL.st ?_
       refine NV.p T ?_
       refine RL.st ?_
       refine NV.call rfl rfl rfl fun17 rfl rfl ((same _ _ _ _ _ _ _ _ (by repeat first | exact hR1 | apply Rd.cons | apply Rd.app) (by repeat first | exact hR2 | apply Rd.cons | apply Rd.app) hn1 hn2 (by rw [hn1]; have := takeV_le es m; omega) (by rw [hn2]; have := takeV_le es m; omega)).mono (fun v H' h => by rw [decide_eq_true rfl] at h; exact h)) ?_
       rintro _ _ ⟨rfl, e⟩; obtain rfl := e.symm
       refine RL.st ?_
       refine NV.p T ?_
       refine RL.split 33 rfl (fun hs0 => ?_) (fun hs0 => ?_)
       ·try simp only [decide_eq_true_eq, decide_eq_false_iff_not, Bool.not_eq_true', Bool.not_eq_false', Int.not_lt, Int.not_le, Int.toNat_natCast] at hs0
        first
         | (exfalso; clear hK9 K9; clear hK8 K8; clear hK7 K7; clear hK5 K5; clear hK4 K4; clear hK2 K2; clear hK1 K1; clear hK0 K0; first | omega | contradiction)
         | (
          refine RL.st ?_
          refine NV.p T ?_
          refine RL.st ?_
          refine NV.p T ?_
          refine RL.st ?_
          refine NV.p T ?_
          refine RL.st ?_
          refine NV.p T ?_
          refine RL.st ?_
          refine NV.p T ?_
          refine RL.split 38 rfl (fun hs1 => ?_) (fun hs1 => ?_)
          ·try simp only [decide_eq_true_eq, decide_eq_false_iff_not, Bool.not_eq_true', Bool.not_eq_false', Int.not_lt, Int.not_le, Int.toNat_natCast] at hs1
           first
            | (exfalso; clear hK9 K9; clear hK8 K8; clear hK7 K7; clear hK5 K5; clear hK4 K4; clear hK2 K2; clear hK1 K1; clear hK0 K0; first | omega | contradiction)
            | (
             refine RL.st ?_
             refine NV.p T ?_
             refine RL.st ?_
             refine NV.p T ?_
             refine RL.st ?_
             refine NV.p T ?_
             refine RL.st ?_
             refine NV.p T ?_
             refine RL.st ?_
             refine NV.p T ?_
             refine RL.nil _ _ _ _ ?_
             refine hK9 _ _ _ ?_
             refine SW.ret ?_
             refine retQ.ret (H' := H) (RVs.tmp (by conv => lhs; whnf) RVs.nil) (fun w hw => Sat.sub (by repeat first | exact List.Sublist.refl _ | apply List.Sublist.cons_cons | apply List.Sublist.cons | exact List.sublist_append_right _ _ | refine List.Sublist.trans ?_ (List.sublist_append_right _ _)) hw) ?_
             clear hK9 K9 hK8 K8 hK7 K7 hK5 K5 hK4 K4 hK2 K2 hK1 K1 hK0 K0
             first | exact ⟨rfl, rfl⟩ | (refine ⟨boolE ?_, rfl⟩; simp; done) | (refine ⟨boolE ?_, rfl⟩; simp_all; done)
             )
          ·try simp only [decide_eq_true_eq, decide_eq_false_iff_not, Bool.not_eq_true', Bool.not_eq_false', Int.not_lt, Int.not_le, Int.toNat_natCast] at hs1
           first
            | (exfalso; clear hK9 K9; clear hK8 K8; clear hK7 K7; clear hK5 K5; clear hK4 K4; clear hK2 K2; clear hK1 K1; clear hK0 K0; first | omega | contradiction)
            | (
             refine RL.guard_no rfl rfl rfl ?_
             refine RL.guard_no rfl rfl rfl ?_
             refine RL.guard_no rfl rfl rfl ?_
             refine RL.st ?_
             refine NV.p T ?_
             refine RL.st ?_
             refine NV.p T ?_
             refine RL.nil _ _ _ _ ?_
             refine hK9 _ _ _ ?_
             refine SW.ret ?_
             refine retQ.ret (H' := H) (RVs.tmp (by conv => lhs; whnf) RVs.nil) (fun w hw => Sat.sub (by repeat first | exact List.Sublist.refl _ | apply List.Sublist.cons_cons | apply List.Sublist.cons | exact List.sublist_append_right _ _ | refine List.Sublist.trans ?_ (List.sublist_append_right _ _)) hw) ?_
             clear hK9 K9 hK8 K8 hK7 K7 hK5 K5 hK4 K4 hK2 K2 hK1 K1 hK0 K0
             first | exact ⟨rfl, rfl⟩ | (refine ⟨boolE ?_, rfl⟩; simp; done) | (refine ⟨boolE ?_, rfl⟩; simp_all; done)
             )
          )
       ·try simp only [decide_eq_true_eq, decide_eq_false_iff_not, Bool.not_eq_true', Bool.not_eq_false', Int.not_lt, Int.not_le, Int.toNat_natCast] at hs0
        first
         | (exfalso; clear hK9 K9; clear hK8 K8; clear hK7 K7; clear hK5 K5; clear hK4 K4; clear hK2 K2; clear hK1 K1; clear hK0 K0; first | omega | contradiction)
         | (
          refine RL.guard_no rfl rfl rfl ?_
          refine RL.guard_no rfl rfl rfl ?_
          refine RL.guard_no rfl rfl rfl ?_
          refine RL.st ?_
          refine NV.p T ?_
          refine RL.st ?_
          refine NV.p T ?_
          refine RL.guard_no rfl rfl rfl ?_
          refine RL.guard_no rfl rfl rfl ?_
          refine RL.guard_no rfl rfl rfl ?_
          refine RL.st ?_
          refine NV.p T ?_
          refine RL.st ?_
          refine NV.p T ?_
          refine RL.nil _ _ _ _ ?_
          refine hK9 _ _ _ ?_
          refine SW.ret ?_
          refine retQ.ret (H' := H) (RVs.tmp (by conv => lhs; whnf) RVs.nil) (fun w hw => Sat.sub (by repeat first | exact List.Sublist.refl _ | apply List.Sublist.cons_cons | apply List.Sublist.cons | exact List.sublist_append_right _ _ | refine List.Sublist.trans ?_ (List.sublist_append_right _ _)) hw) ?_
          clear hK9 K9 hK8 K8 hK7 K7 hK5 K5 hK4 K4 hK2 K2 hK1 K1 hK0 K0
          first | exact ⟨rfl, rfl⟩ | (refine ⟨boolE ?_, rfl⟩; simp; done) | (refine ⟨boolE ?_, rfl⟩; simp_all; done)
          )
       )
    )
theorem stuffTakes {w0 : World} {H : List Chunk} (sa : Option Addr) (n c : Nat) (es : List Int) (hR : ∀ H, Rd w0 H sa n c 1 (es.map (.int .u8))) (hn : n = es.length) (hm : n ≤ 140737488351232) (m : Int) : SC Try.prog w0 6 #[.slice sa n c, .int .i64 m] H (fun v H' => v = .bool true ∧ H' = H) := by
  by_cases h : n ≤ 3000 ∨ 65536 < n
  · exact takes_ok sa n c es hR hn hm m (by simp; omega)
  · exact takes_no sa n c es hR hn hm m h
end Go.Proofs.Ytilffbgepliamaa.M
