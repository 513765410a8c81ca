import Derived.Test.YtilffbgepliamaaProg
import Derived.Test.YtilffbgepliamaaFC3
set_option linter.unusedVariables false
set_option linter.unusedSimpArgs false
namespace Go.Proofs.Ytilffbgepliamaa.M
open Go Go.Sep Go.Proofs
set_option maxRecDepth 10000
set_option maxHeartbeats 2000000
theorem sget_bad {w0 : World} {H : List Chunk} (sa : Option Addr) (n c : Nat) (es : List Int) (hR : Rd w0 H sa n c 1 (es.map (.int .u8))) (hn : n = es.length) (hm : n ≤ 140737488351232) (hc : chk es = 2) : SC Try.prog w0 13 #[.slice sa n c] H (fun v H' => v = .tuple #[.slice none 0 0, .int .i64 2] ∧ H' = H) := by
 refine SC.enter Try.func13 rfl (Nat.le_of_ble_eq_true rfl) ?_
 refine SW.seq_k ?_
 intro K0 hK0
 refine SW.region _ _ _ _ ?_
 refine RL.st ?_
 refine NV.p T ?_
 refine RL.st ?_
 refine NV.p T ?_
 refine RL.nil _ _ _ _ ?_
 refine hK0 _ _ _ ?_
 refine SW.seq_k ?_
 intro K1 hK1
 refine SW.region _ _ _ _ ?_
 refine RL.st ?_
 refine NV.p T ?_
 refine RL.st ?_
 refine NV.call rfl rfl rfl fun27 rfl rfl (SC.nilrow 5 1 (split_bad sa n c es hR hn hm hc)) ?_
 rintro _ _ ⟨rfl, e⟩; obtain rfl := e.symm
 refine RL.st ?_
 refine NV.p T ?_
 refine RL.st ?_
 refine NV.p T ?_
 refine RL.st ?_
 refine NV.p T ?_
 refine RL.st ?_
 refine NV.p T ?_
 refine RL.st ?_
 refine NV.p T ?_
 refine RL.st ?_
 refine NV.p T ?_
 refine RL.st ?_
 refine NV.p T ?_
 refine RL.st ?_
 refine NV.p T ?_
 refine RL.st ?_
 refine NV.p T ?_
 refine RL.nil _ _ _ _ ?_
 refine hK1 _ _ _ ?_
 refine SW.seq_k ?_
 intro K2 hK2
 refine SW.block ?_
 refine SW.seq_k ?_
 intro K3 hK3
 refine SW.region _ _ _ _ ?_
 refine RL.st ?_
 refine NV.p T ?_
 refine RL.st ?_
 refine NV.p T ?_
 refine RL.st ?_
 refine NV.p T ?_
 refine RL.nil _ _ _ _ ?_
 refine hK3 _ _ _ ?_
 refine SW.cond rfl (fun hc0 => ?_) (fun hc0 => ?_)
 ·try simp only [decide_eq_true_eq, decide_eq_false_iff_not, Bool.not_eq_true', Bool.not_eq_false', Int.not_lt, Int.not_le, Int.toNat_natCast] at hc0
  first
   | (exfalso; clear hK3 K3; clear hK2 K2; clear hK1 K1; clear hK0 K0; first | omega | contradiction)
   | (
    refine SW.seq_k ?_
    intro K4 hK4
    refine SW.region _ _ _ _ ?_
    refine RL.st ?_
    refine NV.p T ?_
    refine RL.st ?_
    refine NV.p T ?_
    refine RL.st ?_
    refine NV.p T ?_
    refine RL.nil _ _ _ _ ?_
    refine hK4 _ _ _ ?_
    refine SW.ret ?_
    refine retQ.ret (H' := H) (RVs.tmp (by conv => lhs; whnf) (RVs.tmp (by conv => lhs; whnf) RVs.nil)) (fun w hw => Sat.sub (by repeat first | exact List.Sublist.refl _ | apply List.Sublist.cons_cons | apply List.Sublist.cons | exact List.sublist_append_right _ _ | refine List.Sublist.trans ?_ (List.sublist_append_right _ _)) hw) ?_
    clear hK4 K4 hK3 K3 hK2 K2 hK1 K1 hK0 K0
    exact ⟨rfl, rfl⟩
    )
 ·try simp only [decide_eq_true_eq, decide_eq_false_iff_not, Bool.not_eq_true', Bool.not_eq_false', Int.not_lt, Int.not_le, Int.toNat_natCast] at hc0
  first
   | (exfalso; clear hK3 K3; clear hK2 K2; clear hK1 K1; clear hK0 K0; first | omega | contradiction)
   | (
    refine SW.seq_k ?_
    intro K5 hK5
    refine SW.region _ _ _ _ ?_
    refine RL.st ?_
    refine NV.p T ?_
    refine RL.st ?_
    refine NV.p T ?_
    refine RL.nil _ _ _ _ ?_
    refine hK5 _ _ _ ?_
    refine SW.cond rfl (fun hc1 => ?_) (fun hc1 => ?_)
    ·try simp only [decide_eq_true_eq, decide_eq_false_iff_not, Bool.not_eq_true', Bool.not_eq_false', Int.not_lt, Int.not_le, Int.toNat_natCast] at hc1
     first
      | (exfalso; clear hK5 K5; clear hK3 K3; clear hK2 K2; clear hK1 K1; clear hK0 K0; first | omega | contradiction)
      | (
       refine SW.seq_k ?_
       intro K6 hK6
       refine SW.region _ _ _ _ ?_
       refine RL.st ?_
       refine NV.p T ?_
       refine RL.st ?_
       refine NV.p T ?_
       refine RL.nil _ _ _ _ ?_
       refine hK6 _ _ _ ?_
       refine SW.ret ?_
       refine retQ.ret (H' := H) (RVs.tmp (by conv => lhs; whnf) (RVs.tmp (by conv => lhs; whnf) RVs.nil)) (fun w hw => Sat.sub (by repeat first | exact List.Sublist.refl _ | apply List.Sublist.cons_cons | apply List.Sublist.cons | exact List.sublist_append_right _ _ | refine List.Sublist.trans ?_ (List.sublist_append_right _ _)) hw) ?_
       clear hK6 K6 hK5 K5 hK3 K3 hK2 K2 hK1 K1 hK0 K0
       exact ⟨rfl, rfl⟩
       )
    ·try simp only [decide_eq_true_eq, decide_eq_false_iff_not, Bool.not_eq_true', Bool.not_eq_false', Int.not_lt, Int.not_le, Int.toNat_natCast] at hc1
     first
      | (exfalso; clear hK5 K5; clear hK3 K3; clear hK2 K2; clear hK1 K1; clear hK0 K0; first | omega | contradiction)
      | (
       refine SW.skip ?_
       refine hK2 _ _ _ ?_
       refine SW.seq_k ?_
       intro K7 hK7
       refine SW.region _ _ _ _ ?_
       refine RL.st ?_
       refine NV.p T ?_
       refine RL.st ?_
       refine NV.p T ?_
       refine RL.st ?_
       refine NV.p T ?_
       refine RL.nil _ _ _ _ ?_
       refine hK7 _ _ _ ?_
       refine SW.ret ?_
       refine retQ.ret (H' := H) (RVs.tmp (by conv => lhs; whnf) (RVs.tmp (by conv => lhs; whnf) RVs.nil)) (fun w hw => Sat.sub (by repeat first | exact List.Sublist.refl _ | apply List.Sublist.cons_cons | apply List.Sublist.cons | exact List.sublist_append_right _ _ | refine List.Sublist.trans ?_ (List.sublist_append_right _ _)) hw) ?_
       clear hK7 K7 hK5 K5 hK3 K3 hK2 K2 hK1 K1 hK0 K0
       exact ⟨rfl, rfl⟩
       )
    )
theorem scnt_bad {w0 : World} {H : List Chunk} (sa : Option Addr) (n c : Nat) (es : List Int) (hR : Rd w0 H sa n c 1 (es.map (.int .u8))) (hn : n = es.length) (hm : n ≤ 140737488351232) (hc : chk es = 2) : SC Try.prog w0 15 #[.slice sa n c] H (fun v H' => v = .tuple #[.int .i64 0, .int .i64 2] ∧ H' = H) := by
 refine SC.enter Try.func15 rfl (Nat.le_of_ble_eq_true rfl) ?_
 refine SW.seq_k ?_
 intro K0 hK0
 refine SW.region _ _ _ _ ?_
 refine RL.st ?_
 refine NV.p T ?_
 refine RL.st ?_
 refine NV.p T ?_
 refine RL.nil _ _ _ _ ?_
 refine hK0 _ _ _ ?_
 refine SW.seq_k ?_
 intro K1 hK1
 refine SW.region _ _ _ _ ?_
 refine RL.st ?_
 refine NV.p T ?_
 refine RL.st ?_
 refine NV.call rfl rfl rfl fun27 rfl rfl (SC.nilrow 5 1 (split_bad sa n c es hR hn hm hc)) ?_
 rintro _ _ ⟨rfl, e⟩; obtain rfl := e.symm
 refine RL.st ?_
 refine NV.p T ?_
 refine RL.st ?_
 refine NV.p T ?_
 refine RL.st ?_
 refine NV.p T ?_
 refine RL.st ?_
 refine NV.p T ?_
 refine RL.st ?_
 refine NV.p T ?_
 refine RL.st ?_
 refine NV.p T ?_
 refine RL.st ?_
 refine NV.p T ?_
 refine RL.st ?_
 refine NV.p T ?_
 refine RL.st ?_
 refine NV.p T ?_
 refine RL.nil _ _ _ _ ?_
 refine hK1 _ _ _ ?_
 refine SW.seq_k ?_
 intro K2 hK2
 refine SW.seq_k ?_
 intro K3 hK3
 refine SW.region _ _ _ _ ?_
 refine RL.st ?_
 refine NV.p T ?_
 refine RL.st ?_
 refine NV.p T ?_
 refine RL.nil _ _ _ _ ?_
 refine hK3 _ _ _ ?_
 refine SW.cond rfl (fun hc0 => ?_) (fun hc0 => ?_)
 ·try simp only [decide_eq_true_eq, decide_eq_false_iff_not, Bool.not_eq_true', Bool.not_eq_false', Int.not_lt, Int.not_le, Int.toNat_natCast] at hc0
  first
   | (exfalso; clear hK3 K3; clear hK2 K2; clear hK1 K1; clear hK0 K0; first | omega | contradiction)
   | (
    refine SW.seq_k ?_
    intro K4 hK4
    refine SW.region _ _ _ _ ?_
    refine RL.st ?_
    refine NV.p T ?_
    refine RL.st ?_
    refine NV.p T ?_
    refine RL.st ?_
    refine NV.p T ?_
    refine RL.nil _ _ _ _ ?_
    refine hK4 _ _ _ ?_
    refine SW.ret ?_
    refine retQ.ret (H' := H) (RVs.tmp (by conv => lhs; whnf) (RVs.tmp (by conv => lhs; whnf) RVs.nil)) (fun w hw => Sat.sub (by repeat first | exact List.Sublist.refl _ | apply List.Sublist.cons_cons | apply List.Sublist.cons | exact List.sublist_append_right _ _ | refine List.Sublist.trans ?_ (List.sublist_append_right _ _)) hw) ?_
    clear hK4 K4 hK3 K3 hK2 K2 hK1 K1 hK0 K0
    exact ⟨rfl, rfl⟩
    )
 ·try simp only [decide_eq_true_eq, decide_eq_false_iff_not, Bool.not_eq_true', Bool.not_eq_false', Int.not_lt, Int.not_le, Int.toNat_natCast] at hc0
  first
   | (exfalso; clear hK3 K3; clear hK2 K2; clear hK1 K1; clear hK0 K0; first | omega | contradiction)
   | (
    refine SW.skip ?_
    refine hK2 _ _ _ ?_
    refine SW.seq_k ?_
    intro K5 hK5
    refine SW.region _ _ _ _ ?_
    refine RL.st ?_
    refine NV.p T ?_
    refine RL.st ?_
    refine NV.p T ?_
    refine RL.st ?_
    refine NV.p T ?_
    refine RL.nil _ _ _ _ ?_
    refine hK5 _ _ _ ?_
    refine SW.ret ?_
    refine retQ.ret (H' := H) (RVs.tmp (by conv => lhs; whnf) (RVs.tmp (by conv => lhs; whnf) RVs.nil)) (fun w hw => Sat.sub (by repeat first | exact List.Sublist.refl _ | apply List.Sublist.cons_cons | apply List.Sublist.cons | exact List.sublist_append_right _ _ | refine List.Sublist.trans ?_ (List.sublist_append_right _ _)) hw) ?_
    clear hK5 K5 hK3 K3 hK2 K2 hK1 K1 hK0 K0
    exact ⟨rfl, rfl⟩
    )
theorem sget_no {w0 : World} {H : List Chunk} (sa : Option Addr) (n c : Nat) (es : List Int) (hR : Rd w0 H sa n c 1 (es.map (.int .u8))) (hn : n = es.length) (hm : n ≤ 140737488351232) (hc : chk es = 0) (hg : getF [] ([], 0, false) es = none) : SC Try.prog w0 13 #[.slice sa n c] H (fun v H' => RV w0 H [] 4 v H') := by
 refine SC.enter Try.func13 rfl (Nat.le_of_ble_eq_true rfl) ?_
 refine SW.seq_k ?_
 intro K0 hK0
 refine SW.region _ _ _ _ ?_
 refine RL.st ?_
 refine NV.p T ?_
 refine RL.st ?_
 refine NV.p T ?_
 refine RL.nil _ _ _ _ ?_
 refine hK0 _ _ _ ?_
 refine SW.seq_k ?_
 intro K1 hK1
 refine SW.region _ _ _ _ ?_
 refine RL.st ?_
 refine NV.p T ?_
 refine RL.st ?_
 refine NV.call rfl rfl rfl fun27 rfl rfl (SC.nilrow 5 1 (split_no sa n c es hR hn hm hc hg)) ?_
 rintro _ _ ⟨u, q, d, rfl, Gr, e⟩; obtain rfl := e.symm
 refine RL.st ?_
 refine NV.p T ?_
 refine RL.st ?_
 refine NV.p T ?_
 refine RL.st ?_
 refine NV.p T ?_
 refine RL.st ?_
 refine NV.p T ?_
 refine RL.st ?_
 refine NV.p T ?_
 refine RL.st ?_
 refine NV.p T ?_
 refine RL.st ?_
 refine NV.p T ?_
 refine RL.st ?_
 refine NV.p T ?_
 refine RL.st ?_
 refine NV.p T ?_
 refine RL.nil _ _ _ _ ?_
 refine hK1 _ _ _ ?_
 refine SW.seq_k ?_
 intro K2 hK2
 refine SW.block ?_
 refine SW.seq_k ?_
 intro K3 hK3
 refine SW.region _ _ _ _ ?_
 refine RL.st ?_
 refine NV.p T ?_
 refine RL.st ?_
 refine NV.p T ?_
 refine RL.st ?_
 refine NV.p T ?_
 refine RL.nil _ _ _ _ ?_
 refine hK3 _ _ _ ?_
 refine SW.cond rfl (fun hc0 => ?_) (fun hc0 => ?_)
 ·try simp only [decide_eq_true_eq, decide_eq_false_iff_not, Bool.not_eq_true', Bool.not_eq_false', Int.not_lt, Int.not_le, Int.toNat_natCast] at hc0
  first
   | (exfalso; clear hK3 K3; clear hK2 K2; clear hK1 K1; clear hK0 K0; first | omega | contradiction)
   | (
    refine SW.seq_k ?_
    intro K4 hK4
    refine SW.region _ _ _ _ ?_
    refine RL.st ?_
    refine NV.p T ?_
    refine RL.st ?_
    refine NV.p T ?_
    refine RL.st ?_
    refine NV.p T ?_
    refine RL.nil _ _ _ _ ?_
    refine hK4 _ _ _ ?_
    refine SW.ret ?_
    refine retQ.ret (RVs.tmp (by conv => lhs; whnf) (RVs.tmp (by conv => lhs; whnf) RVs.nil)) (fun w hw => hw) ?_
    clear hK4 K4 hK3 K3 hK2 K2 hK1 K1 hK0 K0
    exact ⟨_, rfl, none, 0, 0, rfl, rfl, Rd.nilS, Gr, rfl⟩
    )
 ·try simp only [decide_eq_true_eq, decide_eq_false_iff_not, Bool.not_eq_true', Bool.not_eq_false', Int.not_lt, Int.not_le, Int.toNat_natCast] at hc0
  first
   | (exfalso; clear hK3 K3; clear hK2 K2; clear hK1 K1; clear hK0 K0; first | omega | contradiction)
   | (
    refine SW.seq_k ?_
    intro K5 hK5
    refine SW.region _ _ _ _ ?_
    refine RL.st ?_
    refine NV.p T ?_
    refine RL.st ?_
    refine NV.p T ?_
    refine RL.nil _ _ _ _ ?_
    refine hK5 _ _ _ ?_
    refine SW.cond rfl (fun hc1 => ?_) (fun hc1 => ?_)
    ·try simp only [decide_eq_true_eq, decide_eq_false_iff_not, Bool.not_eq_true', Bool.not_eq_false', Int.not_lt, Int.not_le, Int.toNat_natCast] at hc1
     first
      | (exfalso; clear hK5 K5; clear hK3 K3; clear hK2 K2; clear hK1 K1; clear hK0 K0; first | omega | contradiction)
      | (
       refine SW.seq_k ?_
       intro K6 hK6
       refine SW.region _ _ _ _ ?_
       refine RL.st ?_
       refine NV.p T ?_
       refine RL.st ?_
       refine NV.p T ?_
       refine RL.nil _ _ _ _ ?_
       refine hK6 _ _ _ ?_
       refine SW.ret ?_
       refine retQ.ret (RVs.tmp (by conv => lhs; whnf) (RVs.tmp (by conv => lhs; whnf) RVs.nil)) (fun w hw => hw) ?_
       clear hK6 K6 hK5 K5 hK3 K3 hK2 K2 hK1 K1 hK0 K0
       exact ⟨_, rfl, none, 0, 0, rfl, rfl, Rd.nilS, Gr, rfl⟩
       )
    ·try simp only [decide_eq_true_eq, decide_eq_false_iff_not, Bool.not_eq_true', Bool.not_eq_false', Int.not_lt, Int.not_le, Int.toNat_natCast] at hc1
     first
      | (exfalso; clear hK5 K5; clear hK3 K3; clear hK2 K2; clear hK1 K1; clear hK0 K0; first | omega | contradiction)
      | (
       refine SW.skip ?_
       refine hK2 _ _ _ ?_
       refine SW.seq_k ?_
       intro K7 hK7
       refine SW.region _ _ _ _ ?_
       refine RL.st ?_
       refine NV.p T ?_
       refine RL.st ?_
       refine NV.p T ?_
       refine RL.st ?_
       refine NV.p T ?_
       refine RL.nil _ _ _ _ ?_
       refine hK7 _ _ _ ?_
       refine SW.ret ?_
       refine retQ.ret (RVs.tmp (by conv => lhs; whnf) (RVs.tmp (by conv => lhs; whnf) RVs.nil)) (fun w hw => hw) ?_
       clear hK7 K7 hK5 K5 hK3 K3 hK2 K2 hK1 K1 hK0 K0
       exact ⟨_, rfl, none, 0, 0, rfl, rfl, Rd.nilS, Gr, rfl⟩
       )
    )
theorem scnt_no {w0 : World} {H : List Chunk} (sa : Option Addr) (n c : Nat) (es : List Int) (hR : Rd w0 H sa n c 1 (es.map (.int .u8))) (hn : n = es.length) (hm : n ≤ 140737488351232) (hc : chk es = 0) (hg : getF [] ([], 0, false) es = none) : SC Try.prog w0 15 #[.slice sa n c] H (fun v H' => v = .tuple #[.int .i64 0, .int .i64 4] ∧ ∃ G, H' = G ++ H) := by
 refine SC.enter Try.func15 rfl (Nat.le_of_ble_eq_true rfl) ?_
 refine SW.seq_k ?_
 intro K0 hK0
 refine SW.region _ _ _ _ ?_
 refine RL.st ?_
 refine NV.p T ?_
 refine RL.st ?_
 refine NV.p T ?_
 refine RL.nil _ _ _ _ ?_
 refine hK0 _ _ _ ?_
 refine SW.seq_k ?_
 intro K1 hK1
 refine SW.region _ _ _ _ ?_
 refine RL.st ?_
 refine NV.p T ?_
 refine RL.st ?_
 refine NV.call rfl rfl rfl fun27 rfl rfl (SC.nilrow 5 1 (split_no sa n c es hR hn hm hc hg)) ?_
 rintro _ _ ⟨u, q, d, rfl, Gr, e⟩; obtain rfl := e.symm
 refine RL.st ?_
 refine NV.p T ?_
 refine RL.st ?_
 refine NV.p T ?_
 refine RL.st ?_
 refine NV.p T ?_
 refine RL.st ?_
 refine NV.p T ?_
 refine RL.st ?_
 refine NV.p T ?_
 refine RL.st ?_
 refine NV.p T ?_
 refine RL.st ?_
 refine NV.p T ?_
 refine RL.st ?_
 refine NV.p T ?_
 refine RL.st ?_
 refine NV.p T ?_
 refine RL.nil _ _ _ _ ?_
 refine hK1 _ _ _ ?_
 refine SW.seq_k ?_
 intro K2 hK2
 refine SW.seq_k ?_
 intro K3 hK3
 refine SW.region _ _ _ _ ?_
 refine RL.st ?_
 refine NV.p T ?_
 refine RL.st ?_
 refine NV.p T ?_
 refine RL.nil _ _ _ _ ?_
 refine hK3 _ _ _ ?_
 refine SW.cond rfl (fun hc0 => ?_) (fun hc0 => ?_)
 ·try simp only [decide_eq_true_eq, decide_eq_false_iff_not, Bool.not_eq_true', Bool.not_eq_false', Int.not_lt, Int.not_le, Int.toNat_natCast] at hc0
  first
   | (exfalso; clear hK3 K3; clear hK2 K2; clear hK1 K1; clear hK0 K0; first | omega | contradiction)
   | (
    refine SW.seq_k ?_
    intro K4 hK4
    refine SW.region _ _ _ _ ?_
    refine RL.st ?_
    refine NV.p T ?_
    refine RL.st ?_
    refine NV.p T ?_
    refine RL.st ?_
    refine NV.p T ?_
    refine RL.nil _ _ _ _ ?_
    refine hK4 _ _ _ ?_
    refine SW.ret ?_
    refine retQ.ret (RVs.tmp (by conv => lhs; whnf) (RVs.tmp (by conv => lhs; whnf) RVs.nil)) (fun w hw => hw) ?_
    clear hK4 K4 hK3 K3 hK2 K2 hK1 K1 hK0 K0
    exact ⟨rfl, Gr, rfl⟩
    )
 ·try simp only [decide_eq_true_eq, decide_eq_false_iff_not, Bool.not_eq_true', Bool.not_eq_false', Int.not_lt, Int.not_le, Int.toNat_natCast] at hc0
  first
   | (exfalso; clear hK3 K3; clear hK2 K2; clear hK1 K1; clear hK0 K0; first | omega | contradiction)
   | (
    refine SW.skip ?_
    refine hK2 _ _ _ ?_
    refine SW.seq_k ?_
    intro K5 hK5
    refine SW.region _ _ _ _ ?_
    refine RL.st ?_
    refine NV.p T ?_
    refine RL.st ?_
    refine NV.p T ?_
    refine RL.st ?_
    refine NV.p T ?_
    refine RL.nil _ _ _ _ ?_
    refine hK5 _ _ _ ?_
    refine SW.ret ?_
    refine retQ.ret (RVs.tmp (by conv => lhs; whnf) (RVs.tmp (by conv => lhs; whnf) RVs.nil)) (fun w hw => hw) ?_
    clear hK5 K5 hK3 K3 hK2 K2 hK1 K1 hK0 K0
    exact ⟨rfl, Gr, rfl⟩
    )
theorem sget_t {w0 : World} {H : List Chunk} (sa : Option Addr) (n c : Nat) (es : List Int) (hR : Rd w0 H sa n c 1 (es.map (.int .u8))) (hn : n = es.length) (hm : n ≤ 140737488351232) (hc : chk es = 0) (o' : List Int) (q' : Int) (hg : getF [] ([], 0, false) es = some (o', q', true)) : SC Try.prog w0 13 #[.slice sa n c] H (fun v H' => RV w0 H [] 7 v H') := by
 refine SC.enter Try.func13 rfl (Nat.le_of_ble_eq_true rfl) ?_
 refine SW.seq_k ?_
 intro K0 hK0
 refine SW.region _ _ _ _ ?_
 refine RL.st ?_
 refine NV.p T ?_
 refine RL.st ?_
 refine NV.p T ?_
 refine RL.nil _ _ _ _ ?_
 refine hK0 _ _ _ ?_
 refine SW.seq_k ?_
 intro K1 hK1
 refine SW.region _ _ _ _ ?_
 refine RL.st ?_
 refine NV.p T ?_
 refine RL.st ?_
 refine NV.call rfl rfl rfl fun27 rfl rfl (SC.nilrow 5 1 (split_ok sa n c es hR hn hm hc o' q' true hg)) ?_
 rintro _ _ ⟨u, rfl, ar, nr, cr, rfl, hnr, hRr, Gr, e⟩; obtain rfl := e.symm
 refine RL.st ?_
 refine NV.p T ?_
 refine RL.st ?_
 refine NV.p T ?_
 refine RL.st ?_
 refine NV.p T ?_
 refine RL.st ?_
 refine NV.p T ?_
 refine RL.st ?_
 refine NV.p T ?_
 refine RL.st ?_
 refine NV.p T ?_
 refine RL.st ?_
 refine NV.p T ?_
 refine RL.st ?_
 refine NV.p T ?_
 refine RL.st ?_
 refine NV.p T ?_
 refine RL.nil _ _ _ _ ?_
 refine hK1 _ _ _ ?_
 refine SW.seq_k ?_
 intro K2 hK2
 refine SW.block ?_
 refine SW.seq_k ?_
 intro K3 hK3
 refine SW.region _ _ _ _ ?_
 refine RL.st ?_
 refine NV.p T ?_
 refine RL.st ?_
 refine NV.p T ?_
 refine RL.st ?_
 refine NV.p T ?_
 refine RL.nil _ _ _ _ ?_
 refine hK3 _ _ _ ?_
 refine SW.cond rfl (fun hc0 => ?_) (fun hc0 => ?_)
 ·try simp only [decide_eq_true_eq, decide_eq_false_iff_not, Bool.not_eq_true', Bool.not_eq_false', Int.not_lt, Int.not_le, Int.toNat_natCast] at hc0
  first
   | (exfalso; clear hK3 K3; clear hK2 K2; clear hK1 K1; clear hK0 K0; first | omega | contradiction)
   | (
    refine SW.seq_k ?_
    intro K4 hK4
    refine SW.region _ _ _ _ ?_
    refine RL.st ?_
    refine NV.p T ?_
    refine RL.st ?_
    refine NV.p T ?_
    refine RL.st ?_
    refine NV.p T ?_
    refine RL.nil _ _ _ _ ?_
    refine hK4 _ _ _ ?_
    refine SW.ret ?_
    refine retQ.ret (RVs.tmp (by conv => lhs; whnf) (RVs.tmp (by conv => lhs; whnf) RVs.nil)) (fun w hw => hw) ?_
    clear hK4 K4 hK3 K3 hK2 K2 hK1 K1 hK0 K0
    exact ⟨_, rfl, none, 0, 0, rfl, rfl, Rd.nilS, Gr, rfl⟩
    )
 ·try simp only [decide_eq_true_eq, decide_eq_false_iff_not, Bool.not_eq_true', Bool.not_eq_false', Int.not_lt, Int.not_le, Int.toNat_natCast] at hc0
  first
   | (exfalso; clear hK3 K3; clear hK2 K2; clear hK1 K1; clear hK0 K0; first | omega | contradiction)
   | (
    refine SW.seq_k ?_
    intro K5 hK5
    refine SW.region _ _ _ _ ?_
    refine RL.st ?_
    refine NV.p T ?_
    refine RL.st ?_
    refine NV.p T ?_
    refine RL.nil _ _ _ _ ?_
    refine hK5 _ _ _ ?_
    refine SW.cond rfl (fun hc1 => ?_) (fun hc1 => ?_)
    ·try simp only [decide_eq_true_eq, decide_eq_false_iff_not, Bool.not_eq_true', Bool.not_eq_false', Int.not_lt, Int.not_le, Int.toNat_natCast] at hc1
     first
      | (exfalso; clear hK5 K5; clear hK3 K3; clear hK2 K2; clear hK1 K1; clear hK0 K0; first | omega | contradiction)
      | (
       refine SW.seq_k ?_
       intro K6 hK6
       refine SW.region _ _ _ _ ?_
       refine RL.st ?_
       refine NV.p T ?_
       refine RL.st ?_
       refine NV.p T ?_
       refine RL.nil _ _ _ _ ?_
       refine hK6 _ _ _ ?_
       refine SW.ret ?_
       refine retQ.ret (RVs.tmp (by conv => lhs; whnf) (RVs.tmp (by conv => lhs; whnf) RVs.nil)) (fun w hw => hw) ?_
       clear hK6 K6 hK5 K5 hK3 K3 hK2 K2 hK1 K1 hK0 K0
       exact ⟨_, rfl, none, 0, 0, rfl, rfl, Rd.nilS, Gr, rfl⟩
       )
    ·try simp only [decide_eq_true_eq, decide_eq_false_iff_not, Bool.not_eq_true', Bool.not_eq_false', Int.not_lt, Int.not_le, Int.toNat_natCast] at hc1
     first
      | (exfalso; clear hK5 K5; clear hK3 K3; clear hK2 K2; clear hK1 K1; clear hK0 K0; first | omega | contradiction)
      | (
       refine SW.skip ?_
       refine hK2 _ _ _ ?_
       refine SW.seq_k ?_
       intro K7 hK7
       refine SW.region _ _ _ _ ?_
       refine RL.st ?_
       refine NV.p T ?_
       refine RL.st ?_
       refine NV.p T ?_
       refine RL.st ?_
       refine NV.p T ?_
       refine RL.nil _ _ _ _ ?_
       refine hK7 _ _ _ ?_
       refine SW.ret ?_
       refine retQ.ret (RVs.tmp (by conv => lhs; whnf) (RVs.tmp (by conv => lhs; whnf) RVs.nil)) (fun w hw => hw) ?_
       clear hK7 K7 hK5 K5 hK3 K3 hK2 K2 hK1 K1 hK0 K0
       exact ⟨_, rfl, none, 0, 0, rfl, rfl, Rd.nilS, Gr, rfl⟩
       )
    )
theorem scnt_t {w0 : World} {H : List Chunk} (sa : Option Addr) (n c : Nat) (es : List Int) (hR : Rd w0 H sa n c 1 (es.map (.int .u8))) (hn : n = es.length) (hm : n ≤ 140737488351232) (hc : chk es = 0) (o' : List Int) (q' : Int) (hg : getF [] ([], 0, false) es = some (o', q', true)) : SC Try.prog w0 15 #[.slice sa n c] H (fun v H' => v = .tuple #[.int .i64 q', .int .i64 0] ∧ ∃ G, H' = G ++ H) := by
 refine SC.enter Try.func15 rfl (Nat.le_of_ble_eq_true rfl) ?_
 refine SW.seq_k ?_
 intro K0 hK0
 refine SW.region _ _ _ _ ?_
 refine RL.st ?_
 refine NV.p T ?_
 refine RL.st ?_
 refine NV.p T ?_
 refine RL.nil _ _ _ _ ?_
 refine hK0 _ _ _ ?_
 refine SW.seq_k ?_
 intro K1 hK1
 refine SW.region _ _ _ _ ?_
 refine RL.st ?_
 refine NV.p T ?_
 refine RL.st ?_
 refine NV.call rfl rfl rfl fun27 rfl rfl (SC.nilrow 5 1 (split_ok sa n c es hR hn hm hc o' q' true hg)) ?_
 rintro _ _ ⟨u, rfl, ar, nr, cr, rfl, hnr, hRr, Gr, e⟩; obtain rfl := e.symm
 refine RL.st ?_
 refine NV.p T ?_
 refine RL.st ?_
 refine NV.p T ?_
 refine RL.st ?_
 refine NV.p T ?_
 refine RL.st ?_
 refine NV.p T ?_
 refine RL.st ?_
 refine NV.p T ?_
 refine RL.st ?_
 refine NV.p T ?_
 refine RL.st ?_
 refine NV.p T ?_
 refine RL.st ?_
 refine NV.p T ?_
 refine RL.st ?_
 refine NV.p T ?_
 refine RL.nil _ _ _ _ ?_
 refine hK1 _ _ _ ?_
 refine SW.seq_k ?_
 intro K2 hK2
 refine SW.seq_k ?_
 intro K3 hK3
 refine SW.region _ _ _ _ ?_
 refine RL.st ?_
 refine NV.p T ?_
 refine RL.st ?_
 refine NV.p T ?_
 refine RL.nil _ _ _ _ ?_
 refine hK3 _ _ _ ?_
 refine SW.cond rfl (fun hc0 => ?_) (fun hc0 => ?_)
 ·try simp only [decide_eq_true_eq, decide_eq_false_iff_not, Bool.not_eq_true', Bool.not_eq_false', Int.not_lt, Int.not_le, Int.toNat_natCast] at hc0
  first
   | (exfalso; clear hK3 K3; clear hK2 K2; clear hK1 K1; clear hK0 K0; first | omega | contradiction)
   | (
    refine SW.seq_k ?_
    intro K4 hK4
    refine SW.region _ _ _ _ ?_
    refine RL.st ?_
    refine NV.p T ?_
    refine RL.st ?_
    refine NV.p T ?_
    refine RL.st ?_
    refine NV.p T ?_
    refine RL.nil _ _ _ _ ?_
    refine hK4 _ _ _ ?_
    refine SW.ret ?_
    refine retQ.ret (RVs.tmp (by conv => lhs; whnf) (RVs.tmp (by conv => lhs; whnf) RVs.nil)) (fun w hw => hw) ?_
    clear hK4 K4 hK3 K3 hK2 K2 hK1 K1 hK0 K0
    exact ⟨rfl, Gr, rfl⟩
    )
 ·try simp only [decide_eq_true_eq, decide_eq_false_iff_not, Bool.not_eq_true', Bool.not_eq_false', Int.not_lt, Int.not_le, Int.toNat_natCast] at hc0
  first
   | (exfalso; clear hK3 K3; clear hK2 K2; clear hK1 K1; clear hK0 K0; first | omega | contradiction)
   | (
    refine SW.skip ?_
    refine hK2 _ _ _ ?_
    refine SW.seq_k ?_
    intro K5 hK5
    refine SW.region _ _ _ _ ?_
    refine RL.st ?_
    refine NV.p T ?_
    refine RL.st ?_
    refine NV.p T ?_
    refine RL.st ?_
    refine NV.p T ?_
    refine RL.nil _ _ _ _ ?_
    refine hK5 _ _ _ ?_
    refine SW.ret ?_
    refine retQ.ret (RVs.tmp (by conv => lhs; whnf) (RVs.tmp (by conv => lhs; whnf) RVs.nil)) (fun w hw => hw) ?_
    clear hK5 K5 hK3 K3 hK2 K2 hK1 K1 hK0 K0
    exact ⟨rfl, Gr, rfl⟩
    )
theorem sget_f {w0 : World} {H : List Chunk} (sa : Option Addr) (n c : Nat) (es : List Int) (hR : Rd w0 H sa n c 1 (es.map (.int .u8))) (hn : n = es.length) (hm : n ≤ 140737488351232) (hc : chk es = 0) (o' : List Int) (q' : Int) (hg : getF [] ([], 0, false) es = some (o', q', false)) : SC Try.prog w0 13 #[.slice sa n c] H (fun v H' => RV w0 H o' 0 v H') := by
 refine SC.enter Try.func13 rfl (Nat.le_of_ble_eq_true rfl) ?_
 refine SW.seq_k ?_
 intro K0 hK0
 refine SW.region _ _ _ _ ?_
 refine RL.st ?_
 refine NV.p T ?_
 refine RL.st ?_
 refine NV.p T ?_
 refine RL.nil _ _ _ _ ?_
 refine hK0 _ _ _ ?_
 refine SW.seq_k ?_
 intro K1 hK1
 refine SW.region _ _ _ _ ?_
 refine RL.st ?_
 refine NV.p T ?_
 refine RL.st ?_
 refine NV.call rfl rfl rfl fun27 rfl rfl (SC.nilrow 5 1 (split_ok sa n c es hR hn hm hc o' q' false hg)) ?_
 rintro _ _ ⟨u, rfl, ar, nr, cr, rfl, hnr, hRr, Gr, e⟩; obtain rfl := e.symm
 refine RL.st ?_
 refine NV.p T ?_
 refine RL.st ?_
 refine NV.p T ?_
 refine RL.st ?_
 refine NV.p T ?_
 refine RL.st ?_
 refine NV.p T ?_
 refine RL.st ?_
 refine NV.p T ?_
 refine RL.st ?_
 refine NV.p T ?_
 refine RL.st ?_
 refine NV.p T ?_
 refine RL.st ?_
 refine NV.p T ?_
 refine RL.st ?_
 refine NV.p T ?_
 refine RL.nil _ _ _ _ ?_
 refine hK1 _ _ _ ?_
 refine SW.seq_k ?_
 intro K2 hK2
 refine SW.block ?_
 refine SW.seq_k ?_
 intro K3 hK3
 refine SW.region _ _ _ _ ?_
 refine RL.st ?_
 refine NV.p T ?_
 refine RL.st ?_
 refine NV.p T ?_
 refine RL.st ?_
 refine NV.p T ?_
 refine RL.nil _ _ _ _ ?_
 refine hK3 _ _ _ ?_
 refine SW.cond rfl (fun hc0 => ?_) (fun hc0 => ?_)
 ·try simp only [decide_eq_true_eq, decide_eq_false_iff_not, Bool.not_eq_true', Bool.not_eq_false', Int.not_lt, Int.not_le, Int.toNat_natCast] at hc0
  first
   | (exfalso; clear hK3 K3; clear hK2 K2; clear hK1 K1; clear hK0 K0; first | omega | contradiction)
   | (
    refine SW.seq_k ?_
    intro K4 hK4
    refine SW.region _ _ _ _ ?_
    refine RL.st ?_
    refine NV.p T ?_
    refine RL.st ?_
    refine NV.p T ?_
    refine RL.st ?_
    refine NV.p T ?_
    refine RL.nil _ _ _ _ ?_
    refine hK4 _ _ _ ?_
    refine SW.ret ?_
    refine retQ.ret (RVs.tmp (by conv => lhs; whnf) (RVs.tmp (by conv => lhs; whnf) RVs.nil)) (fun w hw => hw) ?_
    clear hK4 K4 hK3 K3 hK2 K2 hK1 K1 hK0 K0
    exact ⟨_, rfl, _, _, _, rfl, hnr, hRr, Gr, rfl⟩
    )
 ·try simp only [decide_eq_true_eq, decide_eq_false_iff_not, Bool.not_eq_true', Bool.not_eq_false', Int.not_lt, Int.not_le, Int.toNat_natCast] at hc0
  first
   | (exfalso; clear hK3 K3; clear hK2 K2; clear hK1 K1; clear hK0 K0; first | omega | contradiction)
   | (
    refine SW.seq_k ?_
    intro K5 hK5
    refine SW.region _ _ _ _ ?_
    refine RL.st ?_
    refine NV.p T ?_
    refine RL.st ?_
    refine NV.p T ?_
    refine RL.nil _ _ _ _ ?_
    refine hK5 _ _ _ ?_
    refine SW.cond rfl (fun hc1 => ?_) (fun hc1 => ?_)
    ·try simp only [decide_eq_true_eq, decide_eq_false_iff_not, Bool.not_eq_true', Bool.not_eq_false', Int.not_lt, Int.not_le, Int.toNat_natCast] at hc1
     first
      | (exfalso; clear hK5 K5; clear hK3 K3; clear hK2 K2; clear hK1 K1; clear hK0 K0; first | omega | contradiction)
      | (
       refine SW.seq_k ?_
       intro K6 hK6
       refine SW.region _ _ _ _ ?_
       refine RL.st ?_
       refine NV.p T ?_
       refine RL.st ?_
       refine NV.p T ?_
       refine RL.nil _ _ _ _ ?_
       refine hK6 _ _ _ ?_
       refine SW.ret ?_
       refine retQ.ret (RVs.tmp (by conv => lhs; whnf) (RVs.tmp (by conv => lhs; whnf) RVs.nil)) (fun w hw => hw) ?_
       clear hK6 K6 hK5 K5 hK3 K3 hK2 K2 hK1 K1 hK0 K0
       exact ⟨_, rfl, _, _, _, rfl, hnr, hRr, Gr, rfl⟩
       )
    ·try simp only [decide_eq_true_eq, decide_eq_false_iff_not, Bool.not_eq_true', Bool.not_eq_false', Int.not_lt, Int.not_le, Int.toNat_natCast] at hc1
     first
      | (exfalso; clear hK5 K5; clear hK3 K3; clear hK2 K2; clear hK1 K1; clear hK0 K0; first | omega | contradiction)
      | (
       refine SW.skip ?_
       refine hK2 _ _ _ ?_
       refine SW.seq_k ?_
       intro K7 hK7
       refine SW.region _ _ _ _ ?_
       refine RL.st ?_
       refine NV.p T ?_
       refine RL.st ?_
       refine NV.p T ?_
       refine RL.st ?_
       refine NV.p T ?_
       refine RL.nil _ _ _ _ ?_
       refine hK7 _ _ _ ?_
       refine SW.ret ?_
       refine retQ.ret (RVs.tmp (by conv => lhs; whnf) (RVs.tmp (by conv => lhs; whnf) RVs.nil)) (fun w hw => hw) ?_
       clear hK7 K7 hK5 K5 hK3 K3 hK2 K2 hK1 K1 hK0 K0
       exact ⟨_, rfl, _, _, _, rfl, hnr, hRr, Gr, rfl⟩
       )
    )
theorem scnt_f {w0 : World} {H : List Chunk} (sa : Option Addr) (n c : Nat) (es : List Int) (hR : Rd w0 H sa n c 1 (es.map (.int .u8))) (hn : n = es.length) (hm : n ≤ 140737488351232) (hc : chk es = 0) (o' : List Int) (q' : Int) (hg : getF [] ([], 0, false) es = some (o', q', false)) : SC Try.prog w0 15 #[.slice sa n c] H (fun v H' => v = .tuple #[.int .i64 q', .int .i64 0] ∧ ∃ G, H' = G ++ H) := by
 refine SC.enter Try.func15 rfl (Nat.le_of_ble_eq_true rfl) ?_
 refine SW.seq_k ?_
 intro K0 hK0
 refine SW.region _ _ _ _ ?_
 refine RL.st ?_
 refine NV.p T ?_
 refine RL.st ?_
 refine NV.p T ?_
 refine RL.nil _ _ _ _ ?_
 refine hK0 _ _ _ ?_
 refine SW.seq_k ?_
 intro K1 hK1
 refine SW.region _ _ _ _ ?_
 refine RL.st ?_
 refine NV.p T ?_
 refine RL.st ?_
 refine NV.call rfl rfl rfl fun27 rfl rfl (SC.nilrow 5 1 (split_ok sa n c es hR hn hm hc o' q' false hg)) ?_
 rintro _ _ ⟨u, rfl, ar, nr, cr, rfl, hnr, hRr, Gr, e⟩; obtain rfl := e.symm
 refine RL.st ?_
 refine NV.p T ?_
 refine RL.st ?_
 refine NV.p T ?_
 refine RL.st ?_
 refine NV.p T ?_
 refine RL.st ?_
 refine NV.p T ?_
 refine RL.st ?_
 refine NV.p T ?_
 refine RL.st ?_
 refine NV.p T ?_
 refine RL.st ?_
 refine NV.p T ?_
 refine RL.st ?_
 refine NV.p T ?_
 refine RL.st ?_
 refine NV.p T ?_
 refine RL.nil _ _ _ _ ?_
 refine hK1 _ _ _ ?_
 refine SW.seq_k ?_
 intro K2 hK2
 refine SW.seq_k ?_
 intro K3 hK3
 refine SW.region _ _ _ _ ?_
 refine RL.st ?_
 refine NV.p T ?_
 refine RL.st ?_
 refine NV.p T ?_
 refine RL.nil _ _ _ _ ?_
 refine hK3 _ _ _ ?_
 refine SW.cond rfl (fun hc0 => ?_) (fun hc0 => ?_)
 ·try simp only [decide_eq_true_eq, decide_eq_false_iff_not, Bool.not_eq_true', Bool.not_eq_false', Int.not_lt, Int.not_le, Int.toNat_natCast] at hc0
  first
   | (exfalso; clear hK3 K3; clear hK2 K2; clear hK1 K1; clear hK0 K0; first | omega | contradiction)
   | (
    refine SW.seq_k ?_
    intro K4 hK4
    refine SW.region _ _ _ _ ?_
    refine RL.st ?_
    refine NV.p T ?_
    refine RL.st ?_
    refine NV.p T ?_
    refine RL.st ?_
    refine NV.p T ?_
    refine RL.nil _ _ _ _ ?_
    refine hK4 _ _ _ ?_
    refine SW.ret ?_
    refine retQ.ret (RVs.tmp (by conv => lhs; whnf) (RVs.tmp (by conv => lhs; whnf) RVs.nil)) (fun w hw => hw) ?_
    clear hK4 K4 hK3 K3 hK2 K2 hK1 K1 hK0 K0
    exact ⟨rfl, Gr, rfl⟩
    )
 ·try simp only [decide_eq_true_eq, decide_eq_false_iff_not, Bool.not_eq_true', Bool.not_eq_false', Int.not_lt, Int.not_le, Int.toNat_natCast] at hc0
  first
   | (exfalso; clear hK3 K3; clear hK2 K2; clear hK1 K1; clear hK0 K0; first | omega | contradiction)
   | (
    refine SW.skip ?_
    refine hK2 _ _ _ ?_
    refine SW.seq_k ?_
    intro K5 hK5
    refine SW.region _ _ _ _ ?_
    refine RL.st ?_
    refine NV.p T ?_
    refine RL.st ?_
    refine NV.p T ?_
    refine RL.st ?_
    refine NV.p T ?_
    refine RL.nil _ _ _ _ ?_
    refine hK5 _ _ _ ?_
    refine SW.ret ?_
    refine retQ.ret (RVs.tmp (by conv => lhs; whnf) (RVs.tmp (by conv => lhs; whnf) RVs.nil)) (fun w hw => hw) ?_
    clear hK5 K5 hK3 K3 hK2 K2 hK1 K1 hK0 K0
    exact ⟨rfl, Gr, rfl⟩
    )
theorem sGet {w0 : World} {H : List Chunk} (sa : Option Addr) (n c : Nat) (es : List Int) (hR : Rd w0 H sa n c 1 (es.map (.int .u8))) (hn : n = es.length) (hm : n ≤ 140737488351232) : SC Try.prog w0 13 #[.slice sa n c] H (fun v H' => RV w0 H (getV es).1 (getV es).2 v H') := by
  by_cases hc : chk es = 0
  · cases hg : getF [] ([], 0, false) es with
    | none => have e : getV es = ([], 4) := (by unfold getV; rw [if_pos hc, hg]); rw [e]; exact sget_no sa n c es hR hn hm hc hg
    | some r =>
      obtain ⟨o, q, d⟩ := r
      cases d with
      | true => have e : getV es = ([], 7) := (by unfold getV; rw [if_pos hc, hg]); rw [e]; exact sget_t sa n c es hR hn hm hc o q hg
      | false => have e : getV es = (o, 0) := (by unfold getV; rw [if_pos hc, hg]); rw [e]; exact sget_f sa n c es hR hn hm hc o q hg
  · have e : getV es = ([], 2) := if_neg hc
    rw [e]; exact (sget_bad sa n c es hR hn hm ((chk_or es).resolve_left hc)).mono (by rintro _ _ ⟨rfl, rfl⟩; exact ⟨_, rfl, Res.nil⟩)
theorem sCnt {w0 : World} {H : List Chunk} (sa : Option Addr) (n c : Nat) (es : List Int) (hR : Rd w0 H sa n c 1 (es.map (.int .u8))) (hn : n = es.length) (hm : n ≤ 140737488351232) : SC Try.prog w0 15 #[.slice sa n c] H (fun v H' => v = .tuple #[.int .i64 (cntV es).1, .int .i64 (cntV es).2] ∧ ∃ G, H' = G ++ H) := by
  by_cases hc : chk es = 0
  · cases hg : getF [] ([], 0, false) es with
    | none => have e : cntV es = (0, 4) := (by unfold cntV; rw [if_pos hc, hg]); rw [e]; exact scnt_no sa n c es hR hn hm hc hg
    | some r =>
      obtain ⟨o, q, d⟩ := r
      have e : cntV es = (q, 0) := by unfold cntV; rw [if_pos hc, hg]
      rw [e]
      cases d with
      | true => exact scnt_t sa n c es hR hn hm hc o q hg
      | false => exact scnt_f sa n c es hR hn hm hc o q hg
  · have e : cntV es = (0, 2) := if_neg hc
    rw [e]; exact (scnt_bad sa n c es hR hn hm ((chk_or es).resolve_left hc)).mono (by rintro _ _ ⟨rfl, rfl⟩; exact ⟨rfl, [], rfl⟩)
theorem rget_bad {w0 : World} {H : List Chunk} (sa : Option Addr) (n c : Nat) (es : List Int) (hR : Rd w0 H sa n c 1 (es.map (.int .u8))) (hn : n = es.length) (hm : n ≤ 140737488351232) (hc : chk es = 2) : SC Try.prog w0 14 #[.slice sa n c] H (fun v H' => v = .tuple #[.slice none 0 0, .int .i64 2] ∧ H' = H) := by
 refine SC.enter Try.func14 rfl (Nat.le_of_ble_eq_true rfl) ?_
 refine SW.seq_k ?_
 intro K0 hK0
 refine SW.region _ _ _ _ ?_
 refine RL.st ?_
 refine NV.p T ?_
 refine RL.st ?_
 refine NV.p T ?_
 refine RL.nil _ _ _ _ ?_
 refine hK0 _ _ _ ?_
 refine SW.seq_k ?_
 intro K1 hK1
 refine SW.seq_k ?_
 intro K2 hK2
 refine SW.region _ _ _ _ ?_
 refine RL.st ?_
 refine NV.p T ?_
 refine RL.st ?_
 refine NV.call rfl rfl rfl fun25 rfl rfl ((rcheck sa n c es hR hn (by omega)).mono (fun v H' h => by rw [hc] at h; exact h)) ?_
 rintro _ _ ⟨rfl, e⟩; obtain rfl := e.symm
 refine RL.st ?_
 refine NV.p T ?_
 refine RL.nil _ _ _ _ ?_
 refine hK2 _ _ _ ?_
 refine SW.seq_k ?_
 intro K3 hK3
 refine SW.region _ _ _ _ ?_
 refine RL.st ?_
 refine NV.p T ?_
 refine RL.st ?_
 refine NV.p T ?_
 refine RL.nil _ _ _ _ ?_
 refine hK3 _ _ _ ?_
 refine SW.cond rfl (fun hc0 => ?_) (fun hc0 => ?_)
 ·try simp only [decide_eq_true_eq, decide_eq_false_iff_not, Bool.not_eq_true', Bool.not_eq_false', Int.not_lt, Int.not_le, Int.toNat_natCast] at hc0
  first
   | (exfalso; clear hK3 K3; clear hK2 K2; clear hK1 K1; clear hK0 K0; first | omega | contradiction)
   | (
    refine SW.seq_k ?_
    intro K4 hK4
    refine SW.region _ _ _ _ ?_
    refine RL.st ?_
    refine NV.p T ?_
    refine RL.st ?_
    refine NV.p T ?_
    refine RL.st ?_
    refine NV.p T ?_
    refine RL.nil _ _ _ _ ?_
    refine hK4 _ _ _ ?_
    refine SW.ret ?_
    refine retQ.ret (H' := H) (RVs.tmp (by conv => lhs; whnf) (RVs.tmp (by conv => lhs; whnf) RVs.nil)) (fun w hw => Sat.sub (by repeat first | exact List.Sublist.refl _ | apply List.Sublist.cons_cons | apply List.Sublist.cons | exact List.sublist_append_right _ _ | refine List.Sublist.trans ?_ (List.sublist_append_right _ _)) hw) ?_
    clear hK4 K4 hK3 K3 hK2 K2 hK1 K1 hK0 K0
    exact ⟨rfl, rfl⟩
    )
 ·try simp only [decide_eq_true_eq, decide_eq_false_iff_not, Bool.not_eq_true', Bool.not_eq_false', Int.not_lt, Int.not_le, Int.toNat_natCast] at hc0
  exfalso; clear hK3 K3; clear hK2 K2; clear hK1 K1; clear hK0 K0; first | omega | contradiction
theorem rcnt_bad {w0 : World} {H : List Chunk} (sa : Option Addr) (n c : Nat) (es : List Int) (hR : Rd w0 H sa n c 1 (es.map (.int .u8))) (hn : n = es.length) (hm : n ≤ 140737488351232) (hc : chk es = 2) : SC Try.prog w0 16 #[.slice sa n c] H (fun v H' => v = .tuple #[.int .i64 0, .int .i64 2] ∧ H' = H) := by
 refine SC.enter Try.func16 rfl (Nat.le_of_ble_eq_true rfl) ?_
 refine SW.seq_k ?_
 intro K0 hK0
 refine SW.region _ _ _ _ ?_
 refine RL.st ?_
 refine NV.p T ?_
 refine RL.st ?_
 refine NV.p T ?_
 refine RL.nil _ _ _ _ ?_
 refine hK0 _ _ _ ?_
 refine SW.seq_k ?_
 intro K1 hK1
 refine SW.seq_k ?_
 intro K2 hK2
 refine SW.region _ _ _ _ ?_
 refine RL.st ?_
 refine NV.p T ?_
 refine RL.st ?_
 refine NV.call rfl rfl rfl fun25 rfl rfl ((rcheck sa n c es hR hn (by omega)).mono (fun v H' h => by rw [hc] at h; exact h)) ?_
 rintro _ _ ⟨rfl, e⟩; obtain rfl := e.symm
 refine RL.st ?_
 refine NV.p T ?_
 refine RL.nil _ _ _ _ ?_
 refine hK2 _ _ _ ?_
 refine SW.seq_k ?_
 intro K3 hK3
 refine SW.region _ _ _ _ ?_
 refine RL.st ?_
 refine NV.p T ?_
 refine RL.st ?_
 refine NV.p T ?_
 refine RL.nil _ _ _ _ ?_
 refine hK3 _ _ _ ?_
 refine SW.cond rfl (fun hc0 => ?_) (fun hc0 => ?_)
 ·try simp only [decide_eq_true_eq, decide_eq_false_iff_not, Bool.not_eq_true', Bool.not_eq_false', Int.not_lt, Int.not_le, Int.toNat_natCast] at hc0
  first
   | (exfalso; clear hK3 K3; clear hK2 K2; clear hK1 K1; clear hK0 K0; first | omega | contradiction)
   | (
    refine SW.seq_k ?_
    intro K4 hK4
    refine SW.region _ _ _ _ ?_
    refine RL.st ?_
    refine NV.p T ?_
    refine RL.st ?_
    refine NV.p T ?_
    refine RL.st ?_
    refine NV.p T ?_
    refine RL.nil _ _ _ _ ?_
    refine hK4 _ _ _ ?_
    refine SW.ret ?_
    refine retQ.ret (H' := H) (RVs.tmp (by conv => lhs; whnf) (RVs.tmp (by conv => lhs; whnf) RVs.nil)) (fun w hw => Sat.sub (by repeat first | exact List.Sublist.refl _ | apply List.Sublist.cons_cons | apply List.Sublist.cons | exact List.sublist_append_right _ _ | refine List.Sublist.trans ?_ (List.sublist_append_right _ _)) hw) ?_
    clear hK4 K4 hK3 K3 hK2 K2 hK1 K1 hK0 K0
    exact ⟨rfl, rfl⟩
    )
 ·try simp only [decide_eq_true_eq, decide_eq_false_iff_not, Bool.not_eq_true', Bool.not_eq_false', Int.not_lt, Int.not_le, Int.toNat_natCast] at hc0
  exfalso; clear hK3 K3; clear hK2 K2; clear hK1 K1; clear hK0 K0; first | omega | contradiction
theorem rget_no {w0 : World} {H : List Chunk} (sa : Option Addr) (n c : Nat) (es : List Int) (hR : Rd w0 H sa n c 1 (es.map (.int .u8))) (hn : n = es.length) (hm : n ≤ 140737488351232) (hc : chk es = 0) (hg : getF [] ([], 0, false) es = none) : SC Try.prog w0 14 #[.slice sa n c] H (fun v H' => RV w0 H [] 4 v H') := by
 refine SC.enter Try.func14 rfl (Nat.le_of_ble_eq_true rfl) ?_
 refine SW.seq_k ?_
 intro K0 hK0
 refine SW.region _ _ _ _ ?_
 refine RL.st ?_
 refine NV.p T ?_
 refine RL.st ?_
 refine NV.p T ?_
 refine RL.nil _ _ _ _ ?_
 refine hK0 _ _ _ ?_
 refine SW.seq_k ?_
 intro K1 hK1
 refine SW.seq_k ?_
 intro K2 hK2
 refine SW.region _ _ _ _ ?_
 refine RL.st ?_
 refine NV.p T ?_
 refine RL.st ?_
 refine NV.call rfl rfl rfl fun25 rfl rfl ((rcheck sa n c es hR hn (by omega)).mono (fun v H' h => by rw [hc] at h; exact h)) ?_
 rintro _ _ ⟨rfl, e⟩; obtain rfl := e.symm
 refine RL.st ?_
 refine NV.p T ?_
 refine RL.nil _ _ _ _ ?_
 refine hK2 _ _ _ ?_
 refine SW.seq_k ?_
 intro K3 hK3
 refine SW.region _ _ _ _ ?_
 refine RL.st ?_
 refine NV.p T ?_
 refine RL.st ?_
 refine NV.p T ?_
 refine RL.nil _ _ _ _ ?_
 refine hK3 _ _ _ ?_
 refine SW.cond rfl (fun hc0 => ?_) (fun hc0 => ?_)
 ·try simp only [decide_eq_true_eq, decide_eq_false_iff_not, Bool.not_eq_true', Bool.not_eq_false', Int.not_lt, Int.not_le, Int.toNat_natCast] at hc0
  first
   | (exfalso; clear hK3 K3; clear hK2 K2; clear hK1 K1; clear hK0 K0; first | omega | contradiction)
   | (
    refine SW.seq_k ?_
    intro K4 hK4
    refine SW.region _ _ _ _ ?_
    refine RL.st ?_
    refine NV.p T ?_
    refine RL.st ?_
    refine NV.p T ?_
    refine RL.st ?_
    refine NV.p T ?_
    refine RL.nil _ _ _ _ ?_
    refine hK4 _ _ _ ?_
    refine SW.ret ?_
    refine retQ.ret (RVs.tmp (by conv => lhs; whnf) (RVs.tmp (by conv => lhs; whnf) RVs.nil)) (fun w hw => hw) ?_
    clear hK4 K4 hK3 K3 hK2 K2 hK1 K1 hK0 K0
    exact ⟨_, rfl, Res.nil⟩
    )
 ·try simp only [decide_eq_true_eq, decide_eq_false_iff_not, Bool.not_eq_true', Bool.not_eq_false', Int.not_lt, Int.not_le, Int.toNat_natCast] at hc0
  first
   | (exfalso; clear hK3 K3; clear hK2 K2; clear hK1 K1; clear hK0 K0; first | omega | contradiction)
   | (
    refine SW.skip ?_
    refine hK1 _ _ _ ?_
    refine SW.seq_k ?_
    intro K5 hK5
    refine SW.region _ _ _ _ ?_
    refine RL.st ?_
    refine NV.p T ?_
    refine RL.st ?_
    refine NV.call rfl rfl rfl fun28 rfl rfl (rsplit_no sa n c es hR hn (by omega) hg) ?_
    rintro _ _ ⟨rfl, e⟩; obtain rfl := e.symm
    refine RL.st ?_
    refine NV.p T ?_
    refine RL.st ?_
    refine NV.p T ?_
    refine RL.st ?_
    refine NV.p T ?_
    refine RL.st ?_
    refine NV.p T ?_
    refine RL.st ?_
    refine NV.p T ?_
    refine RL.st ?_
    refine NV.p T ?_
    refine RL.st ?_
    refine NV.p T ?_
    refine RL.st ?_
    refine NV.p T ?_
    refine RL.st ?_
    refine NV.p T ?_
    refine RL.nil _ _ _ _ ?_
    refine hK5 _ _ _ ?_
    refine SW.seq_k ?_
    intro K6 hK6
    refine SW.seq_k ?_
    intro K7 hK7
    refine SW.region _ _ _ _ ?_
    refine RL.st ?_
    refine NV.p T ?_
    refine RL.st ?_
    refine NV.p T ?_
    refine RL.nil _ _ _ _ ?_
    refine hK7 _ _ _ ?_
    refine SW.cond rfl (fun hc1 => ?_) (fun hc1 => ?_)
    ·try simp only [decide_eq_true_eq, decide_eq_false_iff_not, Bool.not_eq_true', Bool.not_eq_false', Int.not_lt, Int.not_le, Int.toNat_natCast] at hc1
     first
      | (exfalso; clear hK7 K7; clear hK6 K6; clear hK5 K5; clear hK3 K3; clear hK2 K2; clear hK1 K1; clear hK0 K0; first | omega | contradiction)
      | (
       refine SW.seq_k ?_
       intro K8 hK8
       refine SW.region _ _ _ _ ?_
       refine RL.st ?_
       refine NV.p T ?_
       refine RL.st ?_
       refine NV.p T ?_
       refine RL.nil _ _ _ _ ?_
       refine hK8 _ _ _ ?_
       refine SW.ret ?_
       refine retQ.ret (RVs.tmp (by conv => lhs; whnf) (RVs.tmp (by conv => lhs; whnf) RVs.nil)) (fun w hw => hw) ?_
       clear hK8 K8 hK7 K7 hK6 K6 hK5 K5 hK3 K3 hK2 K2 hK1 K1 hK0 K0
       exact ⟨_, rfl, Res.nil⟩
       )
    ·try simp only [decide_eq_true_eq, decide_eq_false_iff_not, Bool.not_eq_true', Bool.not_eq_false', Int.not_lt, Int.not_le, Int.toNat_natCast] at hc1
     first
      | (exfalso; clear hK7 K7; clear hK6 K6; clear hK5 K5; clear hK3 K3; clear hK2 K2; clear hK1 K1; clear hK0 K0; first | omega | contradiction)
      | (
       refine SW.skip ?_
       refine hK6 _ _ _ ?_
       refine SW.seq_k ?_
       intro K9 hK9
       refine SW.seq_k ?_
       intro K10 hK10
       refine SW.region _ _ _ _ ?_
       refine RL.st ?_
       refine NV.p T ?_
       refine RL.nil _ _ _ _ ?_
       refine hK10 _ _ _ ?_
       refine SW.cond rfl (fun hc2 => ?_) (fun hc2 => ?_)
       ·try simp only [decide_eq_true_eq, decide_eq_false_iff_not, Bool.not_eq_true', Bool.not_eq_false', Int.not_lt, Int.not_le, Int.toNat_natCast] at hc2
        first
         | (exfalso; clear hK10 K10; clear hK9 K9; clear hK7 K7; clear hK6 K6; clear hK5 K5; clear hK3 K3; clear hK2 K2; clear hK1 K1; clear hK0 K0; first | omega | contradiction)
         | (
          refine SW.seq_k ?_
          intro K11 hK11
          refine SW.region _ _ _ _ ?_
          refine RL.st ?_
          refine NV.p T ?_
          refine RL.st ?_
          refine NV.p T ?_
          refine RL.nil _ _ _ _ ?_
          refine hK11 _ _ _ ?_
          refine SW.ret ?_
          refine retQ.ret (RVs.tmp (by conv => lhs; whnf) (RVs.tmp (by conv => lhs; whnf) RVs.nil)) (fun w hw => hw) ?_
          clear hK11 K11 hK10 K10 hK9 K9 hK7 K7 hK6 K6 hK5 K5 hK3 K3 hK2 K2 hK1 K1 hK0 K0
          exact ⟨_, rfl, Res.nil⟩
          )
       ·try simp only [decide_eq_true_eq, decide_eq_false_iff_not, Bool.not_eq_true', Bool.not_eq_false', Int.not_lt, Int.not_le, Int.toNat_natCast] at hc2
        first
         | (exfalso; clear hK10 K10; clear hK9 K9; clear hK7 K7; clear hK6 K6; clear hK5 K5; clear hK3 K3; clear hK2 K2; clear hK1 K1; clear hK0 K0; first | omega | contradiction)
         | (
          refine SW.skip ?_
          refine hK9 _ _ _ ?_
          refine SW.seq_k ?_
          intro K12 hK12
          refine SW.region _ _ _ _ ?_
          refine RL.st ?_
          refine NV.p T ?_
          refine RL.st ?_
          refine NV.p T ?_
          refine RL.st ?_
          refine NV.p T ?_
          refine RL.nil _ _ _ _ ?_
          refine hK12 _ _ _ ?_
          refine SW.ret ?_
          refine retQ.ret (RVs.tmp (by conv => lhs; whnf) (RVs.tmp (by conv => lhs; whnf) RVs.nil)) (fun w hw => hw) ?_
          clear hK12 K12 hK10 K10 hK9 K9 hK7 K7 hK6 K6 hK5 K5 hK3 K3 hK2 K2 hK1 K1 hK0 K0
          exact ⟨_, rfl, Res.nil⟩
          )
       )
    )
theorem rcnt_no {w0 : World} {H : List Chunk} (sa : Option Addr) (n c : Nat) (es : List Int) (hR : Rd w0 H sa n c 1 (es.map (.int .u8))) (hn : n = es.length) (hm : n ≤ 140737488351232) (hc : chk es = 0) (hg : getF [] ([], 0, false) es = none) : SC Try.prog w0 16 #[.slice sa n c] H (fun v H' => v = .tuple #[.int .i64 0, .int .i64 4] ∧ ∃ G, H' = G ++ H) := by
 refine SC.enter Try.func16 rfl (Nat.le_of_ble_eq_true rfl) ?_
 refine SW.seq_k ?_
 intro K0 hK0
 refine SW.region _ _ _ _ ?_
 refine RL.st ?_
 refine NV.p T ?_
 refine RL.st ?_
 refine NV.p T ?_
 refine RL.nil _ _ _ _ ?_
 refine hK0 _ _ _ ?_
 refine SW.seq_k ?_
 intro K1 hK1
 refine SW.seq_k ?_
 intro K2 hK2
 refine SW.region _ _ _ _ ?_
 refine RL.st ?_
 refine NV.p T ?_
 refine RL.st ?_
 refine NV.call rfl rfl rfl fun25 rfl rfl ((rcheck sa n c es hR hn (by omega)).mono (fun v H' h => by rw [hc] at h; exact h)) ?_
 rintro _ _ ⟨rfl, e⟩; obtain rfl := e.symm
 refine RL.st ?_
 refine NV.p T ?_
 refine RL.nil _ _ _ _ ?_
 refine hK2 _ _ _ ?_
 refine SW.seq_k ?_
 intro K3 hK3
 refine SW.region _ _ _ _ ?_
 refine RL.st ?_
 refine NV.p T ?_
 refine RL.st ?_
 refine NV.p T ?_
 refine RL.nil _ _ _ _ ?_
 refine hK3 _ _ _ ?_
 refine SW.cond rfl (fun hc0 => ?_) (fun hc0 => ?_)
 ·try simp only [decide_eq_true_eq, decide_eq_false_iff_not, Bool.not_eq_true', Bool.not_eq_false', Int.not_lt, Int.not_le, Int.toNat_natCast] at hc0
  first
   | (exfalso; clear hK3 K3; clear hK2 K2; clear hK1 K1; clear hK0 K0; first | omega | contradiction)
   | (
    refine SW.seq_k ?_
    intro K4 hK4
    refine SW.region _ _ _ _ ?_
    refine RL.st ?_
    refine NV.p T ?_
    refine RL.st ?_
    refine NV.p T ?_
    refine RL.st ?_
    refine NV.p T ?_
    refine RL.nil _ _ _ _ ?_
    refine hK4 _ _ _ ?_
    refine SW.ret ?_
    refine retQ.ret (RVs.tmp (by conv => lhs; whnf) (RVs.tmp (by conv => lhs; whnf) RVs.nil)) (fun w hw => hw) ?_
    clear hK4 K4 hK3 K3 hK2 K2 hK1 K1 hK0 K0
    exact ⟨rfl, [], rfl⟩
    )
 ·try simp only [decide_eq_true_eq, decide_eq_false_iff_not, Bool.not_eq_true', Bool.not_eq_false', Int.not_lt, Int.not_le, Int.toNat_natCast] at hc0
  first
   | (exfalso; clear hK3 K3; clear hK2 K2; clear hK1 K1; clear hK0 K0; first | omega | contradiction)
   | (
    refine SW.skip ?_
    refine hK1 _ _ _ ?_
    refine SW.seq_k ?_
    intro K5 hK5
    refine SW.region _ _ _ _ ?_
    refine RL.st ?_
    refine NV.p T ?_
    refine RL.st ?_
    refine NV.call rfl rfl rfl fun28 rfl rfl (rsplit_no sa n c es hR hn (by omega) hg) ?_
    rintro _ _ ⟨rfl, e⟩; obtain rfl := e.symm
    refine RL.st ?_
    refine NV.p T ?_
    refine RL.st ?_
    refine NV.p T ?_
    refine RL.st ?_
    refine NV.p T ?_
    refine RL.st ?_
    refine NV.p T ?_
    refine RL.st ?_
    refine NV.p T ?_
    refine RL.st ?_
    refine NV.p T ?_
    refine RL.st ?_
    refine NV.p T ?_
    refine RL.st ?_
    refine NV.p T ?_
    refine RL.st ?_
    refine NV.p T ?_
    refine RL.nil _ _ _ _ ?_
    refine hK5 _ _ _ ?_
    refine SW.seq_k ?_
    intro K6 hK6
    refine SW.seq_k ?_
    intro K7 hK7
    refine SW.region _ _ _ _ ?_
    refine RL.st ?_
    refine NV.p T ?_
    refine RL.st ?_
    refine NV.p T ?_
    refine RL.nil _ _ _ _ ?_
    refine hK7 _ _ _ ?_
    refine SW.cond rfl (fun hc1 => ?_) (fun hc1 => ?_)
    ·try simp only [decide_eq_true_eq, decide_eq_false_iff_not, Bool.not_eq_true', Bool.not_eq_false', Int.not_lt, Int.not_le, Int.toNat_natCast] at hc1
     first
      | (exfalso; clear hK7 K7; clear hK6 K6; clear hK5 K5; clear hK3 K3; clear hK2 K2; clear hK1 K1; clear hK0 K0; first | omega | contradiction)
      | (
       refine SW.seq_k ?_
       intro K8 hK8
       refine SW.region _ _ _ _ ?_
       refine RL.st ?_
       refine NV.p T ?_
       refine RL.st ?_
       refine NV.p T ?_
       refine RL.nil _ _ _ _ ?_
       refine hK8 _ _ _ ?_
       refine SW.ret ?_
       refine retQ.ret (RVs.tmp (by conv => lhs; whnf) (RVs.tmp (by conv => lhs; whnf) RVs.nil)) (fun w hw => hw) ?_
       clear hK8 K8 hK7 K7 hK6 K6 hK5 K5 hK3 K3 hK2 K2 hK1 K1 hK0 K0
       exact ⟨rfl, [], rfl⟩
       )
    ·try simp only [decide_eq_true_eq, decide_eq_false_iff_not, Bool.not_eq_true', Bool.not_eq_false', Int.not_lt, Int.not_le, Int.toNat_natCast] at hc1
     first
      | (exfalso; clear hK7 K7; clear hK6 K6; clear hK5 K5; clear hK3 K3; clear hK2 K2; clear hK1 K1; clear hK0 K0; first | omega | contradiction)
      | (
       refine SW.skip ?_
       refine hK6 _ _ _ ?_
       refine SW.seq_k ?_
       intro K9 hK9
       refine SW.region _ _ _ _ ?_
       refine RL.st ?_
       refine NV.p T ?_
       refine RL.st ?_
       refine NV.p T ?_
       refine RL.st ?_
       refine NV.p T ?_
       refine RL.nil _ _ _ _ ?_
       refine hK9 _ _ _ ?_
       refine SW.ret ?_
       refine retQ.ret (RVs.tmp (by conv => lhs; whnf) (RVs.tmp (by conv => lhs; whnf) RVs.nil)) (fun w hw => hw) ?_
       clear hK9 K9 hK7 K7 hK6 K6 hK5 K5 hK3 K3 hK2 K2 hK1 K1 hK0 K0
       exact ⟨rfl, [], rfl⟩
       )
    )
theorem rget_t {w0 : World} {H : List Chunk} (sa : Option Addr) (n c : Nat) (es : List Int) (hR : Rd w0 H sa n c 1 (es.map (.int .u8))) (hn : n = es.length) (hm : n ≤ 140737488351232) (hc : chk es = 0) (o' : List Int) (q' : Int) (hg : getF [] ([], 0, false) es = some (o', q', true)) : SC Try.prog w0 14 #[.slice sa n c] H (fun v H' => RV w0 H [] 7 v H') := by
 refine SC.enter Try.func14 rfl (Nat.le_of_ble_eq_true rfl) ?_
 refine SW.seq_k ?_
 intro K0 hK0
 refine SW.region _ _ _ _ ?_
 refine RL.st ?_
 refine NV.p T ?_
 refine RL.st ?_
 refine NV.p T ?_
 refine RL.nil _ _ _ _ ?_
 refine hK0 _ _ _ ?_
 refine SW.seq_k ?_
 intro K1 hK1
 refine SW.seq_k ?_
 intro K2 hK2
 refine SW.region _ _ _ _ ?_
 refine RL.st ?_
 refine NV.p T ?_
 refine RL.st ?_
 refine NV.call rfl rfl rfl fun25 rfl rfl ((rcheck sa n c es hR hn (by omega)).mono (fun v H' h => by rw [hc] at h; exact h)) ?_
 rintro _ _ ⟨rfl, e⟩; obtain rfl := e.symm
 refine RL.st ?_
 refine NV.p T ?_
 refine RL.nil _ _ _ _ ?_
 refine hK2 _ _ _ ?_
 refine SW.seq_k ?_
 intro K3 hK3
 refine SW.region _ _ _ _ ?_
 refine RL.st ?_
 refine NV.p T ?_
 refine RL.st ?_
 refine NV.p T ?_
 refine RL.nil _ _ _ _ ?_
 refine hK3 _ _ _ ?_
 refine SW.cond rfl (fun hc0 => ?_) (fun hc0 => ?_)
 ·try simp only [decide_eq_true_eq, decide_eq_false_iff_not, Bool.not_eq_true', Bool.not_eq_false', Int.not_lt, Int.not_le, Int.toNat_natCast] at hc0
  first
   | (exfalso; clear hK3 K3; clear hK2 K2; clear hK1 K1; clear hK0 K0; first | omega | contradiction)
   | (
    refine SW.seq_k ?_
    intro K4 hK4
    refine SW.region _ _ _ _ ?_
    refine RL.st ?_
    refine NV.p T ?_
    refine RL.st ?_
    refine NV.p T ?_
    refine RL.st ?_
    refine NV.p T ?_
    refine RL.nil _ _ _ _ ?_
    refine hK4 _ _ _ ?_
    refine SW.ret ?_
    refine retQ.ret (RVs.tmp (by conv => lhs; whnf) (RVs.tmp (by conv => lhs; whnf) RVs.nil)) (fun w hw => hw) ?_
    clear hK4 K4 hK3 K3 hK2 K2 hK1 K1 hK0 K0
    exact ⟨_, rfl, none, 0, 0, rfl, rfl, Rd.nilS, Gr, rfl⟩
    )
 ·try simp only [decide_eq_true_eq, decide_eq_false_iff_not, Bool.not_eq_true', Bool.not_eq_false', Int.not_lt, Int.not_le, Int.toNat_natCast] at hc0
  first
   | (exfalso; clear hK3 K3; clear hK2 K2; clear hK1 K1; clear hK0 K0; first | omega | contradiction)
   | (
    refine SW.skip ?_
    refine hK1 _ _ _ ?_
    refine SW.seq_k ?_
    intro K5 hK5
    refine SW.region _ _ _ _ ?_
    refine RL.st ?_
    refine NV.p T ?_
    refine RL.st ?_
    refine NV.call rfl rfl rfl fun28 rfl rfl (rsplit_ok sa n c es hR hn (by omega) o' q' true hg) ?_
    rintro _ _ ⟨u, rfl, ar, nr, cr, rfl, hnr, hRr, Gr, e⟩; obtain rfl := e.symm
    refine RL.st ?_
    refine NV.p T ?_
    refine RL.st ?_
    refine NV.p T ?_
    refine RL.st ?_
    refine NV.p T ?_
    refine RL.st ?_
    refine NV.p T ?_
    refine RL.st ?_
    refine NV.p T ?_
    refine RL.st ?_
    refine NV.p T ?_
    refine RL.st ?_
    refine NV.p T ?_
    refine RL.st ?_
    refine NV.p T ?_
    refine RL.st ?_
    refine NV.p T ?_
    refine RL.nil _ _ _ _ ?_
    refine hK5 _ _ _ ?_
    refine SW.seq_k ?_
    intro K6 hK6
    refine SW.seq_k ?_
    intro K7 hK7
    refine SW.region _ _ _ _ ?_
    refine RL.st ?_
    refine NV.p T ?_
    refine RL.st ?_
    refine NV.p T ?_
    refine RL.nil _ _ _ _ ?_
    refine hK7 _ _ _ ?_
    refine SW.cond rfl (fun hc1 => ?_) (fun hc1 => ?_)
    ·try simp only [decide_eq_true_eq, decide_eq_false_iff_not, Bool.not_eq_true', Bool.not_eq_false', Int.not_lt, Int.not_le, Int.toNat_natCast] at hc1
     first
      | (exfalso; clear hK7 K7; clear hK6 K6; clear hK5 K5; clear hK3 K3; clear hK2 K2; clear hK1 K1; clear hK0 K0; first | omega | contradiction)
      | (
       refine SW.seq_k ?_
       intro K8 hK8
       refine SW.region _ _ _ _ ?_
       refine RL.st ?_
       refine NV.p T ?_
       refine RL.st ?_
       refine NV.p T ?_
       refine RL.nil _ _ _ _ ?_
       refine hK8 _ _ _ ?_
       refine SW.ret ?_
       refine retQ.ret (RVs.tmp (by conv => lhs; whnf) (RVs.tmp (by conv => lhs; whnf) RVs.nil)) (fun w hw => hw) ?_
       clear hK8 K8 hK7 K7 hK6 K6 hK5 K5 hK3 K3 hK2 K2 hK1 K1 hK0 K0
       exact ⟨_, rfl, none, 0, 0, rfl, rfl, Rd.nilS, Gr, rfl⟩
       )
    ·try simp only [decide_eq_true_eq, decide_eq_false_iff_not, Bool.not_eq_true', Bool.not_eq_false', Int.not_lt, Int.not_le, Int.toNat_natCast] at hc1
     first
      | (exfalso; clear hK7 K7; clear hK6 K6; clear hK5 K5; clear hK3 K3; clear hK2 K2; clear hK1 K1; clear hK0 K0; first | omega | contradiction)
      | (
       refine SW.skip ?_
       refine hK6 _ _ _ ?_
       refine SW.seq_k ?_
       intro K9 hK9
       refine SW.seq_k ?_
       intro K10 hK10
       refine SW.region _ _ _ _ ?_
       refine RL.st ?_
       refine NV.p T ?_
       refine RL.nil _ _ _ _ ?_
       refine hK10 _ _ _ ?_
       refine SW.cond rfl (fun hc2 => ?_) (fun hc2 => ?_)
       ·try simp only [decide_eq_true_eq, decide_eq_false_iff_not, Bool.not_eq_true', Bool.not_eq_false', Int.not_lt, Int.not_le, Int.toNat_natCast] at hc2
        first
         | (exfalso; clear hK10 K10; clear hK9 K9; clear hK7 K7; clear hK6 K6; clear hK5 K5; clear hK3 K3; clear hK2 K2; clear hK1 K1; clear hK0 K0; first | omega | contradiction)
         | (
          refine SW.seq_k ?_
          intro K11 hK11
          refine SW.region _ _ _ _ ?_
          refine RL.st ?_
          refine NV.p T ?_
          refine RL.st ?_
          refine NV.p T ?_
          refine RL.nil _ _ _ _ ?_
          refine hK11 _ _ _ ?_
          refine SW.ret ?_
          refine retQ.ret (RVs.tmp (by conv => lhs; whnf) (RVs.tmp (by conv => lhs; whnf) RVs.nil)) (fun w hw => hw) ?_
          clear hK11 K11 hK10 K10 hK9 K9 hK7 K7 hK6 K6 hK5 K5 hK3 K3 hK2 K2 hK1 K1 hK0 K0
          exact ⟨_, rfl, none, 0, 0, rfl, rfl, Rd.nilS, Gr, rfl⟩
          )
       ·try simp only [decide_eq_true_eq, decide_eq_false_iff_not, Bool.not_eq_true', Bool.not_eq_false', Int.not_lt, Int.not_le, Int.toNat_natCast] at hc2
        first
         | (exfalso; clear hK10 K10; clear hK9 K9; clear hK7 K7; clear hK6 K6; clear hK5 K5; clear hK3 K3; clear hK2 K2; clear hK1 K1; clear hK0 K0; first | omega | contradiction)
         | (
          refine SW.skip ?_
          refine hK9 _ _ _ ?_
          refine SW.seq_k ?_
          intro K12 hK12
          refine SW.region _ _ _ _ ?_
          refine RL.st ?_
          refine NV.p T ?_
          refine RL.st ?_
          refine NV.p T ?_
          refine RL.st ?_
          refine NV.p T ?_
          refine RL.nil _ _ _ _ ?_
          refine hK12 _ _ _ ?_
          refine SW.ret ?_
          refine retQ.ret (RVs.tmp (by conv => lhs; whnf) (RVs.tmp (by conv => lhs; whnf) RVs.nil)) (fun w hw => hw) ?_
          clear hK12 K12 hK10 K10 hK9 K9 hK7 K7 hK6 K6 hK5 K5 hK3 K3 hK2 K2 hK1 K1 hK0 K0
          exact ⟨_, rfl, none, 0, 0, rfl, rfl, Rd.nilS, Gr, rfl⟩
          )
       )
    )
theorem rcnt_t {w0 : World} {H : List Chunk} (sa : Option Addr) (n c : Nat) (es : List Int) (hR : Rd w0 H sa n c 1 (es.map (.int .u8))) (hn : n = es.length) (hm : n ≤ 140737488351232) (hc : chk es = 0) (o' : List Int) (q' : Int) (hg : getF [] ([], 0, false) es = some (o', q', true)) : SC Try.prog w0 16 #[.slice sa n c] H (fun v H' => v = .tuple #[.int .i64 q', .int .i64 0] ∧ ∃ G, H' = G ++ H) := by
 refine SC.enter Try.func16 rfl (Nat.le_of_ble_eq_true rfl) ?_
 refine SW.seq_k ?_
 intro K0 hK0
 refine SW.region _ _ _ _ ?_
 refine RL.st ?_
 refine NV.p T ?_
 refine RL.st ?_
 refine NV.p T ?_
 refine RL.nil _ _ _ _ ?_
 refine hK0 _ _ _ ?_
 refine SW.seq_k ?_
 intro K1 hK1
 refine SW.seq_k ?_
 intro K2 hK2
 refine SW.region _ _ _ _ ?_
 refine RL.st ?_
 refine NV.p T ?_
 refine RL.st ?_
 refine NV.call rfl rfl rfl fun25 rfl rfl ((rcheck sa n c es hR hn (by omega)).mono (fun v H' h => by rw [hc] at h; exact h)) ?_
 rintro _ _ ⟨rfl, e⟩; obtain rfl := e.symm
 refine RL.st ?_
 refine NV.p T ?_
 refine RL.nil _ _ _ _ ?_
 refine hK2 _ _ _ ?_
 refine SW.seq_k ?_
 intro K3 hK3
 refine SW.region _ _ _ _ ?_
 refine RL.st ?_
 refine NV.p T ?_
 refine RL.st ?_
 refine NV.p T ?_
 refine RL.nil _ _ _ _ ?_
 refine hK3 _ _ _ ?_
 refine SW.cond rfl (fun hc0 => ?_) (fun hc0 => ?_)
 ·try simp only [decide_eq_true_eq, decide_eq_false_iff_not, Bool.not_eq_true', Bool.not_eq_false', Int.not_lt, Int.not_le, Int.toNat_natCast] at hc0
  first
   | (exfalso; clear hK3 K3; clear hK2 K2; clear hK1 K1; clear hK0 K0; first | omega | contradiction)
   | (
    refine SW.seq_k ?_
    intro K4 hK4
    refine SW.region _ _ _ _ ?_
    refine RL.st ?_
    refine NV.p T ?_
    refine RL.st ?_
    refine NV.p T ?_
    refine RL.st ?_
    refine NV.p T ?_
    refine RL.nil _ _ _ _ ?_
    refine hK4 _ _ _ ?_
    refine SW.ret ?_
    refine retQ.ret (RVs.tmp (by conv => lhs; whnf) (RVs.tmp (by conv => lhs; whnf) RVs.nil)) (fun w hw => hw) ?_
    clear hK4 K4 hK3 K3 hK2 K2 hK1 K1 hK0 K0
    exact ⟨rfl, Gr, rfl⟩
    )
 ·try simp only [decide_eq_true_eq, decide_eq_false_iff_not, Bool.not_eq_true', Bool.not_eq_false', Int.not_lt, Int.not_le, Int.toNat_natCast] at hc0
  first
   | (exfalso; clear hK3 K3; clear hK2 K2; clear hK1 K1; clear hK0 K0; first | omega | contradiction)
   | (
    refine SW.skip ?_
    refine hK1 _ _ _ ?_
    refine SW.seq_k ?_
    intro K5 hK5
    refine SW.region _ _ _ _ ?_
    refine RL.st ?_
    refine NV.p T ?_
    refine RL.st ?_
    refine NV.call rfl rfl rfl fun28 rfl rfl (rsplit_ok sa n c es hR hn (by omega) o' q' true hg) ?_
    rintro _ _ ⟨u, rfl, ar, nr, cr, rfl, hnr, hRr, Gr, e⟩; obtain rfl := e.symm
    refine RL.st ?_
    refine NV.p T ?_
    refine RL.st ?_
    refine NV.p T ?_
    refine RL.st ?_
    refine NV.p T ?_
    refine RL.st ?_
    refine NV.p T ?_
    refine RL.st ?_
    refine NV.p T ?_
    refine RL.st ?_
    refine NV.p T ?_
    refine RL.st ?_
    refine NV.p T ?_
    refine RL.st ?_
    refine NV.p T ?_
    refine RL.st ?_
    refine NV.p T ?_
    refine RL.nil _ _ _ _ ?_
    refine hK5 _ _ _ ?_
    refine SW.seq_k ?_
    intro K6 hK6
    refine SW.seq_k ?_
    intro K7 hK7
    refine SW.region _ _ _ _ ?_
    refine RL.st ?_
    refine NV.p T ?_
    refine RL.st ?_
    refine NV.p T ?_
    refine RL.nil _ _ _ _ ?_
    refine hK7 _ _ _ ?_
    refine SW.cond rfl (fun hc1 => ?_) (fun hc1 => ?_)
    ·try simp only [decide_eq_true_eq, decide_eq_false_iff_not, Bool.not_eq_true', Bool.not_eq_false', Int.not_lt, Int.not_le, Int.toNat_natCast] at hc1
     first
      | (exfalso; clear hK7 K7; clear hK6 K6; clear hK5 K5; clear hK3 K3; clear hK2 K2; clear hK1 K1; clear hK0 K0; first | omega | contradiction)
      | (
       refine SW.seq_k ?_
       intro K8 hK8
       refine SW.region _ _ _ _ ?_
       refine RL.st ?_
       refine NV.p T ?_
       refine RL.st ?_
       refine NV.p T ?_
       refine RL.nil _ _ _ _ ?_
       refine hK8 _ _ _ ?_
       refine SW.ret ?_
       refine retQ.ret (RVs.tmp (by conv => lhs; whnf) (RVs.tmp (by conv => lhs; whnf) RVs.nil)) (fun w hw => hw) ?_
       clear hK8 K8 hK7 K7 hK6 K6 hK5 K5 hK3 K3 hK2 K2 hK1 K1 hK0 K0
       exact ⟨rfl, Gr, rfl⟩
       )
    ·try simp only [decide_eq_true_eq, decide_eq_false_iff_not, Bool.not_eq_true', Bool.not_eq_false', Int.not_lt, Int.not_le, Int.toNat_natCast] at hc1
     first
      | (exfalso; clear hK7 K7; clear hK6 K6; clear hK5 K5; clear hK3 K3; clear hK2 K2; clear hK1 K1; clear hK0 K0; first | omega | contradiction)
      | (
       refine SW.skip ?_
       refine hK6 _ _ _ ?_
       refine SW.seq_k ?_
       intro K9 hK9
       refine SW.region _ _ _ _ ?_
       refine RL.st ?_
       refine NV.p T ?_
       refine RL.st ?_
       refine NV.p T ?_
       refine RL.st ?_
       refine NV.p T ?_
       refine RL.nil _ _ _ _ ?_
       refine hK9 _ _ _ ?_
       refine SW.ret ?_
       refine retQ.ret (RVs.tmp (by conv => lhs; whnf) (RVs.tmp (by conv => lhs; whnf) RVs.nil)) (fun w hw => hw) ?_
       clear hK9 K9 hK7 K7 hK6 K6 hK5 K5 hK3 K3 hK2 K2 hK1 K1 hK0 K0
       exact ⟨rfl, Gr, rfl⟩
       )
    )
theorem rget_f {w0 : World} {H : List Chunk} (sa : Option Addr) (n c : Nat) (es : List Int) (hR : Rd w0 H sa n c 1 (es.map (.int .u8))) (hn : n = es.length) (hm : n ≤ 140737488351232) (hc : chk es = 0) (o' : List Int) (q' : Int) (hg : getF [] ([], 0, false) es = some (o', q', false)) : SC Try.prog w0 14 #[.slice sa n c] H (fun v H' => RV w0 H o' 0 v H') := by
 refine SC.enter Try.func14 rfl (Nat.le_of_ble_eq_true rfl) ?_
 refine SW.seq_k ?_
 intro K0 hK0
 refine SW.region _ _ _ _ ?_
 refine RL.st ?_
 refine NV.p T ?_
 refine RL.st ?_
 refine NV.p T ?_
 refine RL.nil _ _ _ _ ?_
 refine hK0 _ _ _ ?_
 refine SW.seq_k ?_
 intro K1 hK1
 refine SW.seq_k ?_
 intro K2 hK2
 refine SW.region _ _ _ _ ?_
 refine RL.st ?_
 refine NV.p T ?_
 refine RL.st ?_
 refine NV.call rfl rfl rfl fun25 rfl rfl ((rcheck sa n c es hR hn (by omega)).mono (fun v H' h => by rw [hc] at h; exact h)) ?_
 rintro _ _ ⟨rfl, e⟩; obtain rfl := e.symm
 refine RL.st ?_
 refine NV.p T ?_
 refine RL.nil _ _ _ _ ?_
 refine hK2 _ _ _ ?_
 refine SW.seq_k ?_
 intro K3 hK3
 refine SW.region _ _ _ _ ?_
 refine RL.st ?_
 refine NV.p T ?_
 refine RL.st ?_
 refine NV.p T ?_
 refine RL.nil _ _ _ _ ?_
 refine hK3 _ _ _ ?_
 refine SW.cond rfl (fun hc0 => ?_) (fun hc0 => ?_)
 ·try simp only [decide_eq_true_eq, decide_eq_false_iff_not, Bool.not_eq_true', Bool.not_eq_false', Int.not_lt, Int.not_le, Int.toNat_natCast] at hc0
  first
   | (exfalso; clear hK3 K3; clear hK2 K2; clear hK1 K1; clear hK0 K0; first | omega | contradiction)
   | (
    refine SW.seq_k ?_
    intro K4 hK4
    refine SW.region _ _ _ _ ?_
    refine RL.st ?_
    refine NV.p T ?_
    refine RL.st ?_
    refine NV.p T ?_
    refine RL.st ?_
    refine NV.p T ?_
    refine RL.nil _ _ _ _ ?_
    refine hK4 _ _ _ ?_
    refine SW.ret ?_
    refine retQ.ret (RVs.tmp (by conv => lhs; whnf) (RVs.tmp (by conv => lhs; whnf) RVs.nil)) (fun w hw => hw) ?_
    clear hK4 K4 hK3 K3 hK2 K2 hK1 K1 hK0 K0
    exact ⟨_, rfl, _, _, _, rfl, hnr, hRr, Gr, rfl⟩
    )
 ·try simp only [decide_eq_true_eq, decide_eq_false_iff_not, Bool.not_eq_true', Bool.not_eq_false', Int.not_lt, Int.not_le, Int.toNat_natCast] at hc0
  first
   | (exfalso; clear hK3 K3; clear hK2 K2; clear hK1 K1; clear hK0 K0; first | omega | contradiction)
   | (
    refine SW.skip ?_
    refine hK1 _ _ _ ?_
    refine SW.seq_k ?_
    intro K5 hK5
    refine SW.region _ _ _ _ ?_
    refine RL.st ?_
    refine NV.p T ?_
    refine RL.st ?_
    refine NV.call rfl rfl rfl fun28 rfl rfl (rsplit_ok sa n c es hR hn (by omega) o' q' false hg) ?_
    rintro _ _ ⟨u, rfl, ar, nr, cr, rfl, hnr, hRr, Gr, e⟩; obtain rfl := e.symm
    refine RL.st ?_
    refine NV.p T ?_
    refine RL.st ?_
    refine NV.p T ?_
    refine RL.st ?_
    refine NV.p T ?_
    refine RL.st ?_
    refine NV.p T ?_
    refine RL.st ?_
    refine NV.p T ?_
    refine RL.st ?_
    refine NV.p T ?_
    refine RL.st ?_
    refine NV.p T ?_
    refine RL.st ?_
    refine NV.p T ?_
    refine RL.st ?_
    refine NV.p T ?_
    refine RL.nil _ _ _ _ ?_
    refine hK5 _ _ _ ?_
    refine SW.seq_k ?_
    intro K6 hK6
    refine SW.seq_k ?_
    intro K7 hK7
    refine SW.region _ _ _ _ ?_
    refine RL.st ?_
    refine NV.p T ?_
    refine RL.st ?_
    refine NV.p T ?_
    refine RL.nil _ _ _ _ ?_
    refine hK7 _ _ _ ?_
    refine SW.cond rfl (fun hc1 => ?_) (fun hc1 => ?_)
    ·try simp only [decide_eq_true_eq, decide_eq_false_iff_not, Bool.not_eq_true', Bool.not_eq_false', Int.not_lt, Int.not_le, Int.toNat_natCast] at hc1
     first
      | (exfalso; clear hK7 K7; clear hK6 K6; clear hK5 K5; clear hK3 K3; clear hK2 K2; clear hK1 K1; clear hK0 K0; first | omega | contradiction)
      | (
       refine SW.seq_k ?_
       intro K8 hK8
       refine SW.region _ _ _ _ ?_
       refine RL.st ?_
       refine NV.p T ?_
       refine RL.st ?_
       refine NV.p T ?_
       refine RL.nil _ _ _ _ ?_
       refine hK8 _ _ _ ?_
       refine SW.ret ?_
       refine retQ.ret (RVs.tmp (by conv => lhs; whnf) (RVs.tmp (by conv => lhs; whnf) RVs.nil)) (fun w hw => hw) ?_
       clear hK8 K8 hK7 K7 hK6 K6 hK5 K5 hK3 K3 hK2 K2 hK1 K1 hK0 K0
       exact ⟨_, rfl, _, _, _, rfl, hnr, hRr, Gr, rfl⟩
       )
    ·try simp only [decide_eq_true_eq, decide_eq_false_iff_not, Bool.not_eq_true', Bool.not_eq_false', Int.not_lt, Int.not_le, Int.toNat_natCast] at hc1
     first
      | (exfalso; clear hK7 K7; clear hK6 K6; clear hK5 K5; clear hK3 K3; clear hK2 K2; clear hK1 K1; clear hK0 K0; first | omega | contradiction)
      | (
       refine SW.skip ?_
       refine hK6 _ _ _ ?_
       refine SW.seq_k ?_
       intro K9 hK9
       refine SW.seq_k ?_
       intro K10 hK10
       refine SW.region _ _ _ _ ?_
       refine RL.st ?_
       refine NV.p T ?_
       refine RL.nil _ _ _ _ ?_
       refine hK10 _ _ _ ?_
       refine SW.cond rfl (fun hc2 => ?_) (fun hc2 => ?_)
       ·try simp only [decide_eq_true_eq, decide_eq_false_iff_not, Bool.not_eq_true', Bool.not_eq_false', Int.not_lt, Int.not_le, Int.toNat_natCast] at hc2
        first
         | (exfalso; clear hK10 K10; clear hK9 K9; clear hK7 K7; clear hK6 K6; clear hK5 K5; clear hK3 K3; clear hK2 K2; clear hK1 K1; clear hK0 K0; first | omega | contradiction)
         | (
          refine SW.seq_k ?_
          intro K11 hK11
          refine SW.region _ _ _ _ ?_
          refine RL.st ?_
          refine NV.p T ?_
          refine RL.st ?_
          refine NV.p T ?_
          refine RL.nil _ _ _ _ ?_
          refine hK11 _ _ _ ?_
          refine SW.ret ?_
          refine retQ.ret (RVs.tmp (by conv => lhs; whnf) (RVs.tmp (by conv => lhs; whnf) RVs.nil)) (fun w hw => hw) ?_
          clear hK11 K11 hK10 K10 hK9 K9 hK7 K7 hK6 K6 hK5 K5 hK3 K3 hK2 K2 hK1 K1 hK0 K0
          exact ⟨_, rfl, _, _, _, rfl, hnr, hRr, Gr, rfl⟩
          )
       ·try simp only [decide_eq_true_eq, decide_eq_false_iff_not, Bool.not_eq_true', Bool.not_eq_false', Int.not_lt, Int.not_le, Int.toNat_natCast] at hc2
        first
         | (exfalso; clear hK10 K10; clear hK9 K9; clear hK7 K7; clear hK6 K6; clear hK5 K5; clear hK3 K3; clear hK2 K2; clear hK1 K1; clear hK0 K0; first | omega | contradiction)
         | (
          refine SW.skip ?_
          refine hK9 _ _ _ ?_
          refine SW.seq_k ?_
          intro K12 hK12
          refine SW.region _ _ _ _ ?_
          refine RL.st ?_
          refine NV.p T ?_
          refine RL.st ?_
          refine NV.p T ?_
          refine RL.st ?_
          refine NV.p T ?_
          refine RL.nil _ _ _ _ ?_
          refine hK12 _ _ _ ?_
          refine SW.ret ?_
          refine retQ.ret (RVs.tmp (by conv => lhs; whnf) (RVs.tmp (by conv => lhs; whnf) RVs.nil)) (fun w hw => hw) ?_
          clear hK12 K12 hK10 K10 hK9 K9 hK7 K7 hK6 K6 hK5 K5 hK3 K3 hK2 K2 hK1 K1 hK0 K0
          exact ⟨_, rfl, _, _, _, rfl, hnr, hRr, Gr, rfl⟩
          )
       )
    )
theorem rcnt_f {w0 : World} {H : List Chunk} (sa : Option Addr) (n c : Nat) (es : List Int) (hR : Rd w0 H sa n c 1 (es.map (.int .u8))) (hn : n = es.length) (hm : n ≤ 140737488351232) (hc : chk es = 0) (o' : List Int) (q' : Int) (hg : getF [] ([], 0, false) es = some (o', q', false)) : SC Try.prog w0 16 #[.slice sa n c] H (fun v H' => v = .tuple #[.int .i64 q', .int .i64 0] ∧ ∃ G, H' = G ++ H) := by
 refine SC.enter Try.func16 rfl (Nat.le_of_ble_eq_true rfl) ?_
 refine SW.seq_k ?_
 intro K0 hK0
 refine SW.region _ _ _ _ ?_
 refine RL.st ?_
 refine NV.p T ?_
 refine RL.st ?_
 refine NV.p T ?_
 refine RL.nil _ _ _ _ ?_
 refine hK0 _ _ _ ?_
 refine SW.seq_k ?_
 intro K1 hK1
 refine SW.seq_k ?_
 intro K2 hK2
 refine SW.region _ _ _ _ ?_
 refine RL.st ?_
 refine NV.p T ?_
 refine RL.st ?_
 refine NV.call rfl rfl rfl fun25 rfl rfl ((rcheck sa n c es hR hn (by omega)).mono (fun v H' h => by rw [hc] at h; exact h)) ?_
 rintro _ _ ⟨rfl, e⟩; obtain rfl := e.symm
 refine RL.st ?_
 refine NV.p T ?_
 refine RL.nil _ _ _ _ ?_
 refine hK2 _ _ _ ?_
 refine SW.seq_k ?_
 intro K3 hK3
 refine SW.region _ _ _ _ ?_
 refine RL.st ?_
 refine NV.p T ?_
 refine RL.st ?_
 refine NV.p T ?_
 refine RL.nil _ _ _ _ ?_
 refine hK3 _ _ _ ?_
 refine SW.cond rfl (fun hc0 => ?_) (fun hc0 => ?_)
 ·try simp only [decide_eq_true_eq, decide_eq_false_iff_not, Bool.not_eq_true', Bool.not_eq_false', Int.not_lt, Int.not_le, Int.toNat_natCast] at hc0
  first
   | (exfalso; clear hK3 K3; clear hK2 K2; clear hK1 K1; clear hK0 K0; first | omega | contradiction)
   | (
    refine SW.seq_k ?_
    intro K4 hK4
    refine SW.region _ _ _ _ ?_
    refine RL.st ?_
    refine NV.p T ?_
    refine RL.st ?_
    refine NV.p T ?_
    refine RL.st ?_
    refine NV.p T ?_
    refine RL.nil _ _ _ _ ?_
    refine hK4 _ _ _ ?_
    refine SW.ret ?_
    refine retQ.ret (RVs.tmp (by conv => lhs; whnf) (RVs.tmp (by conv => lhs; whnf) RVs.nil)) (fun w hw => hw) ?_
    clear hK4 K4 hK3 K3 hK2 K2 hK1 K1 hK0 K0
    exact ⟨rfl, Gr, rfl⟩
    )
 ·try simp only [decide_eq_true_eq, decide_eq_false_iff_not, Bool.not_eq_true', Bool.not_eq_false', Int.not_lt, Int.not_le, Int.toNat_natCast] at hc0
  first
   | (exfalso; clear hK3 K3; clear hK2 K2; clear hK1 K1; clear hK0 K0; first | omega | contradiction)
   | (
    refine SW.skip ?_
    refine hK1 _ _ _ ?_
    refine SW.seq_k ?_
    intro K5 hK5
    refine SW.region _ _ _ _ ?_
    refine RL.st ?_
    refine NV.p T ?_
    refine RL.st ?_
    refine NV.call rfl rfl rfl fun28 rfl rfl (rsplit_ok sa n c es hR hn (by omega) o' q' false hg) ?_
    rintro _ _ ⟨u, rfl, ar, nr, cr, rfl, hnr, hRr, Gr, e⟩; obtain rfl := e.symm
    refine RL.st ?_
    refine NV.p T ?_
    refine RL.st ?_
    refine NV.p T ?_
    refine RL.st ?_
    refine NV.p T ?_
    refine RL.st ?_
    refine NV.p T ?_
    refine RL.st ?_
    refine NV.p T ?_
    refine RL.st ?_
    refine NV.p T ?_
    refine RL.st ?_
    refine NV.p T ?_
    refine RL.st ?_
    refine NV.p T ?_
    refine RL.st ?_
    refine NV.p T ?_
    refine RL.nil _ _ _ _ ?_
    refine hK5 _ _ _ ?_
    refine SW.seq_k ?_
    intro K6 hK6
    refine SW.seq_k ?_
    intro K7 hK7
    refine SW.region _ _ _ _ ?_
    refine RL.st ?_
    refine NV.p T ?_
    refine RL.st ?_
    refine NV.p T ?_
    refine RL.nil _ _ _ _ ?_
    refine hK7 _ _ _ ?_
    refine SW.cond rfl (fun hc1 => ?_) (fun hc1 => ?_)
    ·try simp only [decide_eq_true_eq, decide_eq_false_iff_not, Bool.not_eq_true', Bool.not_eq_false', Int.not_lt, Int.not_le, Int.toNat_natCast] at hc1
     first
      | (exfalso; clear hK7 K7; clear hK6 K6; clear hK5 K5; clear hK3 K3; clear hK2 K2; clear hK1 K1; clear hK0 K0; first | omega | contradiction)
      | (
       refine SW.seq_k ?_
       intro K8 hK8
       refine SW.region _ _ _ _ ?_
       refine RL.st ?_
       refine NV.p T ?_
       refine RL.st ?_
       refine NV.p T ?_
       refine RL.nil _ _ _ _ ?_
       refine hK8 _ _ _ ?_
       refine SW.ret ?_
       refine retQ.ret (RVs.tmp (by conv => lhs; whnf) (RVs.tmp (by conv => lhs; whnf) RVs.nil)) (fun w hw => hw) ?_
       clear hK8 K8 hK7 K7 hK6 K6 hK5 K5 hK3 K3 hK2 K2 hK1 K1 hK0 K0
       exact ⟨rfl, Gr, rfl⟩
       )
    ·try simp only [decide_eq_true_eq, decide_eq_false_iff_not, Bool.not_eq_true', Bool.not_eq_false', Int.not_lt, Int.not_le, Int.toNat_natCast] at hc1
     first
      | (exfalso; clear hK7 K7; clear hK6 K6; clear hK5 K5; clear hK3 K3; clear hK2 K2; clear hK1 K1; clear hK0 K0; first | omega | contradiction)
      | (
       refine SW.skip ?_
       refine hK6 _ _ _ ?_
       refine SW.seq_k ?_
       intro K9 hK9
       refine SW.region _ _ _ _ ?_
       refine RL.st ?_
       refine NV.p T ?_
       refine RL.st ?_
       refine NV.p T ?_
       refine RL.st ?_
       refine NV.p T ?_
       refine RL.nil _ _ _ _ ?_
       refine hK9 _ _ _ ?_
       refine SW.ret ?_
       refine retQ.ret (RVs.tmp (by conv => lhs; whnf) (RVs.tmp (by conv => lhs; whnf) RVs.nil)) (fun w hw => hw) ?_
       clear hK9 K9 hK7 K7 hK6 K6 hK5 K5 hK3 K3 hK2 K2 hK1 K1 hK0 K0
       exact ⟨rfl, Gr, rfl⟩
       )
    )
theorem rGet {w0 : World} {H : List Chunk} (sa : Option Addr) (n c : Nat) (es : List Int) (hR : Rd w0 H sa n c 1 (es.map (.int .u8))) (hn : n = es.length) (hm : n ≤ 140737488351232) : SC Try.prog w0 14 #[.slice sa n c] H (fun v H' => RV w0 H (getV es).1 (getV es).2 v H') := by
  by_cases hc : chk es = 0
  · cases hg : getF [] ([], 0, false) es with
    | none => have e : getV es = ([], 4) := (by unfold getV; rw [if_pos hc, hg]); rw [e]; exact rget_no sa n c es hR hn hm hc hg
    | some r =>
      obtain ⟨o, q, d⟩ := r
      cases d with
      | true => have e : getV es = ([], 7) := (by unfold getV; rw [if_pos hc, hg]); rw [e]; exact rget_t sa n c es hR hn hm hc o q hg
      | false => have e : getV es = (o, 0) := (by unfold getV; rw [if_pos hc, hg]); rw [e]; exact rget_f sa n c es hR hn hm hc o q hg
  · have e : getV es = ([], 2) := if_neg hc
    rw [e]; exact (rget_bad sa n c es hR hn hm ((chk_or es).resolve_left hc)).mono (by rintro _ _ ⟨rfl, rfl⟩; exact ⟨_, rfl, Res.nil⟩)
theorem rCnt {w0 : World} {H : List Chunk} (sa : Option Addr) (n c : Nat) (es : List Int) (hR : Rd w0 H sa n c 1 (es.map (.int .u8))) (hn : n = es.length) (hm : n ≤ 140737488351232) : SC Try.prog w0 16 #[.slice sa n c] H (fun v H' => v = .tuple #[.int .i64 (cntV es).1, .int .i64 (cntV es).2] ∧ ∃ G, H' = G ++ H) := by
  by_cases hc : chk es = 0
  · cases hg : getF [] ([], 0, false) es with
    | none => have e : cntV es = (0, 4) := (by unfold cntV; rw [if_pos hc, hg]); rw [e]; exact rcnt_no sa n c es hR hn hm hc hg
    | some r =>
      obtain ⟨o, q, d⟩ := r
      have e : cntV es = (q, 0) := by unfold cntV; rw [if_pos hc, hg]
      rw [e]
      cases d with
      | true => exact rcnt_t sa n c es hR hn hm hc o q hg
      | false => exact rcnt_f sa n c es hR hn hm hc o q hg
  · have e : cntV es = (0, 2) := if_neg hc
    rw [e]; exact (rcnt_bad sa n c es hR hn hm ((chk_or es).resolve_left hc)).mono (by rintro _ _ ⟨rfl, rfl⟩; exact ⟨rfl, [], rfl⟩)
end Go.Proofs.Ytilffbgepliamaa.M
