import Derived.Test.YtdcahmifalabnaaProg
import Derived.Test.YtdcahmifalabnaaFE4
import Derived.Test.YtdcahmifalabnaaP4d
set_option linter.unusedVariables false
set_option linter.unusedSimpArgs false
namespace Go.Proofs.Ytdcahmifalabnaa.M
open Go Go.Sep Go.Proofs
set_option maxRecDepth 10000
set_option maxHeartbeats 2000000
theorem tallies_no {w0 : World} {H : List Chunk} (m w : Int) (h : m < 0 ∨ m = 9223372036854775807) : SC Try.prog w0 8 #[.int .i64 m, .int .u8 w] H (fun v H' => v = .bool true ∧ H' = H) := by
 refine SC.enter Try.func8 rfl (Nat.le_of_ble_eq_true rfl) ?_
 refine SW.seq_k ?_
 intro K0 hK0
 refine SW.region _ _ _ _ ?_
 refine RL.st ?_
 refine NV.p T ?_
 refine RL.nil _ _ _ _ ?_
 refine hK0 _ _ _ ?_
 refine SW.seq_k ?_
 intro K1 hK1
 refine SW.seq_k ?_
 intro K2 hK2
 refine SW.region _ _ _ _ ?_
 refine RL.st ?_
 refine NV.call rfl rfl rfl fun9 rfl rfl (alive) ?_
 rintro _ _ ⟨rfl, e⟩; obtain rfl := e.symm
 refine RL.st ?_
 refine NV.p T ?_
 refine RL.nil _ _ _ _ ?_
 refine hK2 _ _ _ ?_
 refine SW.cond rfl (fun hc0 => ?_) (fun hc0 => ?_)
 ·try simp only [decide_eq_true_eq, decide_eq_false_iff_not, Bool.not_eq_true', Bool.not_eq_false', Int.not_lt, Int.not_le, Int.toNat_natCast] at hc0
  first
   | (exfalso; clear hK2 K2; clear hK1 K1; clear hK0 K0; first | omega | contradiction)
   | (
    refine SW.seq_k ?_
    intro K3 hK3
    refine SW.region _ _ _ _ ?_
    refine RL.st ?_
    refine NV.p T ?_
    refine RL.nil _ _ _ _ ?_
    refine hK3 _ _ _ ?_
    refine SW.ret ?_
    refine retQ.ret (H' := H) (RVs.tmp (by conv => lhs; whnf) RVs.nil) (fun w hw => Sat.sub (by repeat first | exact List.Sublist.refl _ | apply List.Sublist.cons_cons | apply List.Sublist.cons | exact List.sublist_append_right _ _ | refine List.Sublist.trans ?_ (List.sublist_append_right _ _)) hw) ?_
    clear hK3 K3 hK2 K2 hK1 K1 hK0 K0
    first | exact ⟨rfl, rfl⟩ | (refine ⟨boolE ?_, rfl⟩; simp; done) | (refine ⟨boolE ?_, rfl⟩; simp_all; done)
    )
 ·try simp only [decide_eq_true_eq, decide_eq_false_iff_not, Bool.not_eq_true', Bool.not_eq_false', Int.not_lt, Int.not_le, Int.toNat_natCast] at hc0
  first
   | (exfalso; clear hK2 K2; clear hK1 K1; clear hK0 K0; first | omega | contradiction)
   | (
    refine SW.skip ?_
    refine hK1 _ _ _ ?_
    refine SW.seq_k ?_
    intro K4 hK4
    refine SW.seq_k ?_
    intro K5 hK5
    refine SW.region _ _ _ _ ?_
    refine RL.st ?_
    refine NV.p T ?_
    refine RL.st ?_
    refine NV.p T ?_
    refine RL.st ?_
    refine NV.p T ?_
    refine RL.split 19 rfl (fun hs0 => ?_) (fun hs0 => ?_)
    ·try simp only [decide_eq_true_eq, decide_eq_false_iff_not, Bool.not_eq_true', Bool.not_eq_false', Int.not_lt, Int.not_le, Int.toNat_natCast] at hs0
     first
      | (exfalso; clear hK5 K5; clear hK4 K4; clear hK2 K2; clear hK1 K1; clear hK0 K0; first | omega | contradiction)
      | (
       refine RL.guard_no rfl rfl rfl ?_
       refine RL.guard_no rfl rfl rfl ?_
       refine RL.st ?_
       refine NV.p T ?_
       refine RL.nil _ _ _ _ ?_
       refine hK5 _ _ _ ?_
       refine SW.cond_t rfl ?_
       refine SW.seq_k ?_
       intro K6 hK6
       refine SW.region _ _ _ _ ?_
       refine RL.st ?_
       refine NV.p T ?_
       refine RL.nil _ _ _ _ ?_
       refine hK6 _ _ _ ?_
       refine SW.ret ?_
       refine retQ.ret (H' := H) (RVs.tmp (by conv => lhs; whnf) RVs.nil) (fun w hw => Sat.sub (by repeat first | exact List.Sublist.refl _ | apply List.Sublist.cons_cons | apply List.Sublist.cons | exact List.sublist_append_right _ _ | refine List.Sublist.trans ?_ (List.sublist_append_right _ _)) hw) ?_
       clear hK6 K6 hK5 K5 hK4 K4 hK2 K2 hK1 K1 hK0 K0
       first | exact ⟨rfl, rfl⟩ | (refine ⟨boolE ?_, rfl⟩; simp; done) | (refine ⟨boolE ?_, rfl⟩; simp_all; done)
       )
    ·try simp only [decide_eq_true_eq, decide_eq_false_iff_not, Bool.not_eq_true', Bool.not_eq_false', Int.not_lt, Int.not_le, Int.toNat_natCast] at hs0
     first
      | (exfalso; clear hK5 K5; clear hK4 K4; clear hK2 K2; clear hK1 K1; clear hK0 K0; first | omega | contradiction)
      | (
       refine RL.st ?_
       refine NV.p T ?_
       refine RL.st ?_
       refine NV.p T ?_
       refine RL.st ?_
       refine NV.p T ?_
       refine RL.nil _ _ _ _ ?_
       refine hK5 _ _ _ ?_
       refine SW.cond rfl (fun hc1 => ?_) (fun hc1 => ?_)
       ·try simp only [decide_eq_true_eq, decide_eq_false_iff_not, Bool.not_eq_true', Bool.not_eq_false', Int.not_lt, Int.not_le, Int.toNat_natCast] at hc1
        first
         | (exfalso; clear hK5 K5; clear hK4 K4; clear hK2 K2; clear hK1 K1; clear hK0 K0; first | omega | contradiction)
         | (
          refine SW.seq_k ?_
          intro K7 hK7
          refine SW.region _ _ _ _ ?_
          refine RL.st ?_
          refine NV.p T ?_
          refine RL.nil _ _ _ _ ?_
          refine hK7 _ _ _ ?_
          refine SW.ret ?_
          refine retQ.ret (H' := H) (RVs.tmp (by conv => lhs; whnf) RVs.nil) (fun w hw => Sat.sub (by repeat first | exact List.Sublist.refl _ | apply List.Sublist.cons_cons | apply List.Sublist.cons | exact List.sublist_append_right _ _ | refine List.Sublist.trans ?_ (List.sublist_append_right _ _)) hw) ?_
          clear hK7 K7 hK5 K5 hK4 K4 hK2 K2 hK1 K1 hK0 K0
          first | exact ⟨rfl, rfl⟩ | (refine ⟨boolE ?_, rfl⟩; simp; done) | (refine ⟨boolE ?_, rfl⟩; simp_all; done)
          )
       ·try simp only [decide_eq_true_eq, decide_eq_false_iff_not, Bool.not_eq_true', Bool.not_eq_false', Int.not_lt, Int.not_le, Int.toNat_natCast] at hc1
        exfalso; clear hK5 K5; clear hK4 K4; clear hK2 K2; clear hK1 K1; clear hK0 K0; first | omega | contradiction
       )
    )
theorem tallies_ok {w0 : World} {H : List Chunk} (m w : Int) (h0 : 0 ≤ m) (h1 : m < 9223372036854775807) (w0' : 0 ≤ w) (i i2 j : Nat) (hm8 : m.tmod 8 = (i : Int)) (hi : (m.tmod 8).toNat = i) (hi2 : ((m + 1).tmod 8).toNat = i2) (ha4 : w.tmod 4 = (j : Int)) (hj : j < 4) (l1 : (tallyT i).length = 4) (l2 : (tallyT i2).length = 4) (b1 : Byte (tallyT i)) (ht : tellsV (tallyT i) = ((i : Int), 0)) (hd : cntD (tallyT i) (tallyT i2) 4 = 2) (hf : tellsV ((tallyT i).set j (1 - (tallyT i).getD j 0)) = (0, 6)) (hx : xorI .u8 ((tallyT i).getD j 0) 1 = 1 - (tallyT i).getD j 0) (b2 : Byte ((tallyT i).set j (1 - (tallyT i).getD j 0))) : SC Try.prog w0 8 #[.int .i64 m, .int .u8 w] H (fun v H' => v = .bool true ∧ H' = H) := by
 refine SC.enter Try.func8 rfl (Nat.le_of_ble_eq_true rfl) ?_
 refine SW.seq_k ?_
 intro K0 hK0
 refine SW.region _ _ _ _ ?_
 refine RL.st ?_
 refine NV.p T ?_
 refine RL.nil _ _ _ _ ?_
 refine hK0 _ _ _ ?_
 refine SW.seq_k ?_
 intro K1 hK1
 refine SW.seq_k ?_
 intro K2 hK2
 refine SW.region _ _ _ _ ?_
 refine RL.st ?_
 refine NV.call rfl rfl rfl fun9 rfl rfl (alive) ?_
 rintro _ _ ⟨rfl, e⟩; obtain rfl := e.symm
 refine RL.st ?_
 refine NV.p T ?_
 refine RL.nil _ _ _ _ ?_
 refine hK2 _ _ _ ?_
 refine SW.cond rfl (fun hc0 => ?_) (fun hc0 => ?_)
 ·try simp only [decide_eq_true_eq, decide_eq_false_iff_not, Bool.not_eq_true', Bool.not_eq_false', Int.not_lt, Int.not_le, Int.toNat_natCast] at hc0
  first
   | (exfalso; clear hK2 K2; clear hK1 K1; clear hK0 K0; first | omega | contradiction)
   | (
    refine SW.seq_k ?_
    intro K3 hK3
    refine SW.region _ _ _ _ ?_
    refine RL.st ?_
    refine NV.p T ?_
    refine RL.nil _ _ _ _ ?_
    refine hK3 _ _ _ ?_
    refine SW.ret ?_
    refine retQ.ret (H' := H) (RVs.tmp (by conv => lhs; whnf) RVs.nil) (fun w hw => Sat.sub (by repeat first | exact List.Sublist.refl _ | apply List.Sublist.cons_cons | apply List.Sublist.cons | exact List.sublist_append_right _ _ | refine List.Sublist.trans ?_ (List.sublist_append_right _ _)) hw) ?_
    clear hK3 K3 hK2 K2 hK1 K1 hK0 K0
    first | exact ⟨rfl, rfl⟩ | (refine ⟨boolE ?_, rfl⟩; simp; done) | (refine ⟨boolE ?_, rfl⟩; simp_all; done)
    )
 ·try simp only [decide_eq_true_eq, decide_eq_false_iff_not, Bool.not_eq_true', Bool.not_eq_false', Int.not_lt, Int.not_le, Int.toNat_natCast] at hc0
  first
   | (exfalso; clear hK2 K2; clear hK1 K1; clear hK0 K0; first | omega | contradiction)
   | (
    refine SW.skip ?_
    refine hK1 _ _ _ ?_
    refine SW.seq_k ?_
    intro K4 hK4
    refine SW.seq_k ?_
    intro K5 hK5
    refine SW.region _ _ _ _ ?_
    refine RL.st ?_
    refine NV.p T ?_
    refine RL.st ?_
    refine NV.p T ?_
    refine RL.st ?_
    refine NV.p T ?_
    refine RL.split 19 rfl (fun hs0 => ?_) (fun hs0 => ?_)
    ·try simp only [decide_eq_true_eq, decide_eq_false_iff_not, Bool.not_eq_true', Bool.not_eq_false', Int.not_lt, Int.not_le, Int.toNat_natCast] at hs0
     first
      | (exfalso; clear hK5 K5; clear hK4 K4; clear hK2 K2; clear hK1 K1; clear hK0 K0; first | omega | contradiction)
      | (
       refine RL.guard_no rfl rfl rfl ?_
       refine RL.guard_no rfl rfl rfl ?_
       refine RL.st ?_
       refine NV.p T ?_
       refine RL.nil _ _ _ _ ?_
       refine hK5 _ _ _ ?_
       refine SW.cond_t rfl ?_
       refine SW.seq_k ?_
       intro K6 hK6
       refine SW.region _ _ _ _ ?_
       refine RL.st ?_
       refine NV.p T ?_
       refine RL.nil _ _ _ _ ?_
       refine hK6 _ _ _ ?_
       refine SW.ret ?_
       refine retQ.ret (H' := H) (RVs.tmp (by conv => lhs; whnf) RVs.nil) (fun w hw => Sat.sub (by repeat first | exact List.Sublist.refl _ | apply List.Sublist.cons_cons | apply List.Sublist.cons | exact List.sublist_append_right _ _ | refine List.Sublist.trans ?_ (List.sublist_append_right _ _)) hw) ?_
       clear hK6 K6 hK5 K5 hK4 K4 hK2 K2 hK1 K1 hK0 K0
       first | exact ⟨rfl, rfl⟩ | (refine ⟨boolE ?_, rfl⟩; simp; done) | (refine ⟨boolE ?_, rfl⟩; simp_all; done)
       )
    ·try simp only [decide_eq_true_eq, decide_eq_false_iff_not, Bool.not_eq_true', Bool.not_eq_false', Int.not_lt, Int.not_le, Int.toNat_natCast] at hs0
     first
      | (exfalso; clear hK5 K5; clear hK4 K4; clear hK2 K2; clear hK1 K1; clear hK0 K0; first | omega | contradiction)
      | (
       refine RL.st ?_
       refine NV.p T ?_
       refine RL.st ?_
       refine NV.p T ?_
       refine RL.st ?_
       refine NV.p T ?_
       refine RL.nil _ _ _ _ ?_
       refine hK5 _ _ _ ?_
       refine SW.cond rfl (fun hc1 => ?_) (fun hc1 => ?_)
       ·try simp only [decide_eq_true_eq, decide_eq_false_iff_not, Bool.not_eq_true', Bool.not_eq_false', Int.not_lt, Int.not_le, Int.toNat_natCast] at hc1
        first
         | (exfalso; clear hK5 K5; clear hK4 K4; clear hK2 K2; clear hK1 K1; clear hK0 K0; first | omega | contradiction)
         | (
          refine SW.seq_k ?_
          intro K7 hK7
          refine SW.region _ _ _ _ ?_
          refine RL.st ?_
          refine NV.p T ?_
          refine RL.nil _ _ _ _ ?_
          refine hK7 _ _ _ ?_
          refine SW.ret ?_
          refine retQ.ret (H' := H) (RVs.tmp (by conv => lhs; whnf) RVs.nil) (fun w hw => Sat.sub (by repeat first | exact List.Sublist.refl _ | apply List.Sublist.cons_cons | apply List.Sublist.cons | exact List.sublist_append_right _ _ | refine List.Sublist.trans ?_ (List.sublist_append_right _ _)) hw) ?_
          clear hK7 K7 hK5 K5 hK4 K4 hK2 K2 hK1 K1 hK0 K0
          first | exact ⟨rfl, rfl⟩ | (refine ⟨boolE ?_, rfl⟩; simp; done) | (refine ⟨boolE ?_, rfl⟩; simp_all; done)
          )
       ·try simp only [decide_eq_true_eq, decide_eq_false_iff_not, Bool.not_eq_true', Bool.not_eq_false', Int.not_lt, Int.not_le, Int.toNat_natCast] at hc1
        first
         | (exfalso; clear hK5 K5; clear hK4 K4; clear hK2 K2; clear hK1 K1; clear hK0 K0; first | omega | contradiction)
         | (
          refine SW.skip ?_
          refine hK4 _ _ _ ?_
          refine SW.seq_k ?_
          intro K8 hK8
          refine SW.region _ _ _ _ ?_
          refine RL.st ?_
          refine NV.p T ?_
          refine RL.st ?_
          refine NV.call rfl rfl rfl fun19 rfl rfl ((tally m h0).mono (fun v H' h => by rw [hi] at h; exact h)) ?_
          rintro _ _ ⟨s1, k1, rfl, e⟩; obtain rfl := e.symm
          refine RL.st ?_
          refine NV.p T ?_
          refine RL.st ?_
          refine NV.p T ?_
          refine RL.st ?_
          refine NV.p T ?_
          refine RL.st ?_
          refine NV.p T ?_
          refine RL.st ?_
          refine NV.p T ?_
          refine RL.nil _ _ _ _ ?_
          refine hK8 _ _ _ ?_
          refine SW.seq_k ?_
          intro K9 hK9
          refine SW.region _ _ _ _ ?_
          refine RL.st ?_
          refine NV.p T ?_
          refine RL.st ?_
          first | refine NV.arith rfl rfl rfl rfl (by omega) (by omega) ?_ | refine NV.p T ?_
          refine RL.st ?_
          refine NV.call rfl rfl rfl fun19 rfl rfl ((tally (m + 1) (by omega)).mono (fun v H' h => by rw [hi2] at h; exact h)) ?_
          rintro _ _ ⟨s2, k2, rfl, e⟩; obtain rfl := e.symm
          refine RL.st ?_
          refine NV.p T ?_
          refine RL.st ?_
          refine NV.p T ?_
          refine RL.st ?_
          refine NV.p T ?_
          refine RL.st ?_
          refine NV.p T ?_
          refine RL.st ?_
          refine NV.p T ?_
          refine RL.nil _ _ _ _ ?_
          refine hK9 _ _ _ ?_
          refine SW.seq_k ?_
          intro K10 hK10
          refine SW.region _ _ _ _ ?_
          refine RL.st ?_
          refine NV.p T ?_
          refine RL.st ?_
          refine NV.sat (fun hs => ?_) (fun c hc => by cases hc)
          refine NV.call rfl rfl rfl fun21 rfl rfl ((ftells s1 4 k1 (tallyT i) (Rd.row (by repeat first | exact At.head _ _ | apply At.tail | apply At.app) hs) (by omega) (by omega) b1).mono (fun v H' h => by rw [ht] at h; dsimp only at h; exact h)) ?_
          rintro _ _ ⟨rfl, e⟩; obtain rfl := e.symm
          refine RL.st ?_
          refine NV.p T ?_
          refine RL.st ?_
          refine NV.p T ?_
          refine RL.st ?_
          refine NV.p T ?_
          refine RL.st ?_
          refine NV.p T ?_
          refine RL.st ?_
          refine NV.p T ?_
          refine RL.nil _ _ _ _ ?_
          refine hK10 _ _ _ ?_
          refine SW.seq_k ?_
          intro K11 hK11
          refine SW.seq_k ?_
          intro K12 hK12
          refine SW.region _ _ _ _ ?_
          refine RL.st ?_
          refine NV.p T ?_
          refine RL.st ?_
          refine NV.p T ?_
          refine RL.st ?_
          refine NV.p T ?_
          refine RL.split 41 rfl (fun hs1 => ?_) (fun hs1 => ?_)
          ·try simp only [decide_eq_true_eq, decide_eq_false_iff_not, Bool.not_eq_true', Bool.not_eq_false', Int.not_lt, Int.not_le, Int.toNat_natCast] at hs1
           first
            | (exfalso; clear hK12 K12; clear hK11 K11; clear hK10 K10; clear hK9 K9; clear hK8 K8; clear hK5 K5; clear hK4 K4; clear hK2 K2; clear hK1 K1; clear hK0 K0; first | omega | contradiction)
            | (
             refine RL.guard_no rfl rfl rfl ?_
             refine RL.guard_no rfl rfl rfl ?_
             refine RL.st ?_
             refine NV.p T ?_
             refine RL.st ?_
             refine NV.p T ?_
             refine RL.guard_no rfl rfl rfl ?_
             refine RL.guard_no rfl rfl rfl ?_
             refine RL.st ?_
             refine NV.p T ?_
             refine RL.st ?_
             refine NV.p T ?_
             refine RL.guard_no rfl rfl rfl ?_
             refine RL.guard_no rfl rfl rfl ?_
             refine RL.guard_no rfl rfl rfl ?_
             refine RL.guard_no rfl rfl rfl ?_
             refine RL.st ?_
             refine NV.p T ?_
             refine RL.st ?_
             refine NV.p T ?_
             refine RL.guard_no rfl rfl rfl ?_
             refine RL.guard_no rfl rfl rfl ?_
             refine RL.guard_no rfl rfl rfl ?_
             refine RL.st ?_
             refine NV.p T ?_
             refine RL.st ?_
             refine NV.p T ?_
             refine RL.guard_no rfl rfl rfl ?_
             refine RL.guard_no rfl rfl rfl ?_
             refine RL.guard_no rfl rfl rfl ?_
             refine RL.st ?_
             refine NV.p T ?_
             refine RL.nil _ _ _ _ ?_
             refine hK12 _ _ _ ?_
             refine SW.cond_t rfl ?_
             refine SW.seq_k ?_
             intro K13 hK13
             refine SW.region _ _ _ _ ?_
             refine RL.st ?_
             refine NV.p T ?_
             refine RL.nil _ _ _ _ ?_
             refine hK13 _ _ _ ?_
             refine SW.ret ?_
             refine retQ.ret (H' := H) (RVs.tmp (by conv => lhs; whnf) RVs.nil) (fun w hw => Sat.sub (by repeat first | exact List.Sublist.refl _ | apply List.Sublist.cons_cons | apply List.Sublist.cons | exact List.sublist_append_right _ _ | refine List.Sublist.trans ?_ (List.sublist_append_right _ _)) hw) ?_
             clear hK13 K13 hK12 K12 hK11 K11 hK10 K10 hK9 K9 hK8 K8 hK5 K5 hK4 K4 hK2 K2 hK1 K1 hK0 K0
             first | exact ⟨rfl, rfl⟩ | (refine ⟨boolE ?_, rfl⟩; simp; done) | (refine ⟨boolE ?_, rfl⟩; simp_all; done)
             )
          ·try simp only [decide_eq_true_eq, decide_eq_false_iff_not, Bool.not_eq_true', Bool.not_eq_false', Int.not_lt, Int.not_le, Int.toNat_natCast] at hs1
           first
            | (exfalso; clear hK12 K12; clear hK11 K11; clear hK10 K10; clear hK9 K9; clear hK8 K8; clear hK5 K5; clear hK4 K4; clear hK2 K2; clear hK1 K1; clear hK0 K0; first | omega | contradiction)
            | (
             refine RL.st ?_
             refine NV.p T ?_
             refine RL.st ?_
             refine NV.p T ?_
             refine RL.st ?_
             refine NV.p T ?_
             refine RL.st ?_
             refine NV.p T ?_
             refine RL.split 45 rfl (fun hs2 => ?_) (fun hs2 => ?_)
             ·try simp only [decide_eq_true_eq, decide_eq_false_iff_not, Bool.not_eq_true', Bool.not_eq_false', Int.not_lt, Int.not_le, Int.toNat_natCast] at hs2
              first
               | (exfalso; clear hK12 K12; clear hK11 K11; clear hK10 K10; clear hK9 K9; clear hK8 K8; clear hK5 K5; clear hK4 K4; clear hK2 K2; clear hK1 K1; clear hK0 K0; first | omega | contradiction)
               | (
                refine RL.guard_no rfl rfl rfl ?_
                refine RL.guard_no rfl rfl rfl ?_
                refine RL.st ?_
                refine NV.p T ?_
                refine RL.st ?_
                refine NV.p T ?_
                refine RL.guard_no rfl rfl rfl ?_
                refine RL.guard_no rfl rfl rfl ?_
                refine RL.guard_no rfl rfl rfl ?_
                refine RL.guard_no rfl rfl rfl ?_
                refine RL.st ?_
                refine NV.p T ?_
                refine RL.st ?_
                refine NV.p T ?_
                refine RL.guard_no rfl rfl rfl ?_
                refine RL.guard_no rfl rfl rfl ?_
                refine RL.guard_no rfl rfl rfl ?_
                refine RL.st ?_
                refine NV.p T ?_
                refine RL.st ?_
                refine NV.p T ?_
                refine RL.guard_no rfl rfl rfl ?_
                refine RL.guard_no rfl rfl rfl ?_
                refine RL.guard_no rfl rfl rfl ?_
                refine RL.st ?_
                refine NV.p T ?_
                refine RL.nil _ _ _ _ ?_
                refine hK12 _ _ _ ?_
                refine SW.cond_t rfl ?_
                refine SW.seq_k ?_
                intro K14 hK14
                refine SW.region _ _ _ _ ?_
                refine RL.st ?_
                refine NV.p T ?_
                refine RL.nil _ _ _ _ ?_
                refine hK14 _ _ _ ?_
                refine SW.ret ?_
                refine retQ.ret (H' := H) (RVs.tmp (by conv => lhs; whnf) RVs.nil) (fun w hw => Sat.sub (by repeat first | exact List.Sublist.refl _ | apply List.Sublist.cons_cons | apply List.Sublist.cons | exact List.sublist_append_right _ _ | refine List.Sublist.trans ?_ (List.sublist_append_right _ _)) hw) ?_
                clear hK14 K14 hK12 K12 hK11 K11 hK10 K10 hK9 K9 hK8 K8 hK5 K5 hK4 K4 hK2 K2 hK1 K1 hK0 K0
                first | exact ⟨rfl, rfl⟩ | (refine ⟨boolE ?_, rfl⟩; simp; done) | (refine ⟨boolE ?_, rfl⟩; simp_all; done)
                )
             ·try simp only [decide_eq_true_eq, decide_eq_false_iff_not, Bool.not_eq_true', Bool.not_eq_false', Int.not_lt, Int.not_le, Int.toNat_natCast] at hs2
              first
               | (exfalso; clear hK12 K12; clear hK11 K11; clear hK10 K10; clear hK9 K9; clear hK8 K8; clear hK5 K5; clear hK4 K4; clear hK2 K2; clear hK1 K1; clear hK0 K0; first | omega | contradiction)
               | (
                refine RL.st ?_
                refine NV.p T ?_
                refine RL.st ?_
                refine NV.p T ?_
                refine RL.st ?_
                refine NV.p T ?_
                refine RL.st ?_
                refine NV.p T ?_
                refine RL.split 49 rfl (fun hs3 => ?_) (fun hs3 => ?_)
                ·try simp only [decide_eq_true_eq, decide_eq_false_iff_not, Bool.not_eq_true', Bool.not_eq_false', Int.not_lt, Int.not_le, Int.toNat_natCast] at hs3
                 first
                  | (exfalso; clear hK12 K12; clear hK11 K11; clear hK10 K10; clear hK9 K9; clear hK8 K8; clear hK5 K5; clear hK4 K4; clear hK2 K2; clear hK1 K1; clear hK0 K0; first | omega | contradiction)
                  | (
                   refine RL.guard_no rfl rfl rfl ?_
                   refine RL.guard_no rfl rfl rfl ?_
                   refine RL.guard_no rfl rfl rfl ?_
                   refine RL.guard_no rfl rfl rfl ?_
                   refine RL.st ?_
                   refine NV.p T ?_
                   refine RL.st ?_
                   refine NV.p T ?_
                   refine RL.guard_no rfl rfl rfl ?_
                   refine RL.guard_no rfl rfl rfl ?_
                   refine RL.guard_no rfl rfl rfl ?_
                   refine RL.st ?_
                   refine NV.p T ?_
                   refine RL.st ?_
                   refine NV.p T ?_
                   refine RL.guard_no rfl rfl rfl ?_
                   refine RL.guard_no rfl rfl rfl ?_
                   refine RL.guard_no rfl rfl rfl ?_
                   refine RL.st ?_
                   refine NV.p T ?_
                   refine RL.nil _ _ _ _ ?_
                   refine hK12 _ _ _ ?_
                   refine SW.cond_t rfl ?_
                   refine SW.seq_k ?_
                   intro K15 hK15
                   refine SW.region _ _ _ _ ?_
                   refine RL.st ?_
                   refine NV.p T ?_
                   refine RL.nil _ _ _ _ ?_
                   refine hK15 _ _ _ ?_
                   refine SW.ret ?_
                   refine retQ.ret (H' := H) (RVs.tmp (by conv => lhs; whnf) RVs.nil) (fun w hw => Sat.sub (by repeat first | exact List.Sublist.refl _ | apply List.Sublist.cons_cons | apply List.Sublist.cons | exact List.sublist_append_right _ _ | refine List.Sublist.trans ?_ (List.sublist_append_right _ _)) hw) ?_
                   clear hK15 K15 hK12 K12 hK11 K11 hK10 K10 hK9 K9 hK8 K8 hK5 K5 hK4 K4 hK2 K2 hK1 K1 hK0 K0
                   first | exact ⟨rfl, rfl⟩ | (refine ⟨boolE ?_, rfl⟩; simp; done) | (refine ⟨boolE ?_, rfl⟩; simp_all; done)
                   )
                ·try simp only [decide_eq_true_eq, decide_eq_false_iff_not, Bool.not_eq_true', Bool.not_eq_false', Int.not_lt, Int.not_le, Int.toNat_natCast] at hs3
                 first
                  | (exfalso; clear hK12 K12; clear hK11 K11; clear hK10 K10; clear hK9 K9; clear hK8 K8; clear hK5 K5; clear hK4 K4; clear hK2 K2; clear hK1 K1; clear hK0 K0; first | omega | contradiction)
                  | (
                   refine RL.st ?_
                   refine NV.p T ?_
                   refine RL.st ?_
                   refine NV.p T ?_
                   refine RL.st ?_
                   first | refine NV.rem rfl rfl rfl (by omega) hm8 ?_ | refine NV.rem rfl rfl rfl (by omega) ha4 ?_
                   refine RL.st ?_
                   refine NV.p T ?_
                   refine RL.st ?_
                   refine NV.p T ?_
                   refine RL.st ?_
                   refine NV.p T ?_
                   refine RL.split 55 rfl (fun hs4 => ?_) (fun hs4 => ?_)
                   ·try simp only [decide_eq_true_eq, decide_eq_false_iff_not, Bool.not_eq_true', Bool.not_eq_false', Int.not_lt, Int.not_le, Int.toNat_natCast] at hs4
                    first
                     | (exfalso; clear hK12 K12; clear hK11 K11; clear hK10 K10; clear hK9 K9; clear hK8 K8; clear hK5 K5; clear hK4 K4; clear hK2 K2; clear hK1 K1; clear hK0 K0; first | omega | contradiction)
                     | (
                      refine RL.guard_no rfl rfl rfl ?_
                      refine RL.guard_no rfl rfl rfl ?_
                      refine RL.guard_no rfl rfl rfl ?_
                      refine RL.st ?_
                      refine NV.p T ?_
                      refine RL.st ?_
                      refine NV.p T ?_
                      refine RL.guard_no rfl rfl rfl ?_
                      refine RL.guard_no rfl rfl rfl ?_
                      refine RL.guard_no rfl rfl rfl ?_
                      refine RL.st ?_
                      refine NV.p T ?_
                      refine RL.nil _ _ _ _ ?_
                      refine hK12 _ _ _ ?_
                      refine SW.cond_t rfl ?_
                      refine SW.seq_k ?_
                      intro K16 hK16
                      refine SW.region _ _ _ _ ?_
                      refine RL.st ?_
                      refine NV.p T ?_
                      refine RL.nil _ _ _ _ ?_
                      refine hK16 _ _ _ ?_
                      refine SW.ret ?_
                      refine retQ.ret (H' := H) (RVs.tmp (by conv => lhs; whnf) RVs.nil) (fun w hw => Sat.sub (by repeat first | exact List.Sublist.refl _ | apply List.Sublist.cons_cons | apply List.Sublist.cons | exact List.sublist_append_right _ _ | refine List.Sublist.trans ?_ (List.sublist_append_right _ _)) hw) ?_
                      clear hK16 K16 hK12 K12 hK11 K11 hK10 K10 hK9 K9 hK8 K8 hK5 K5 hK4 K4 hK2 K2 hK1 K1 hK0 K0
                      first | exact ⟨rfl, rfl⟩ | (refine ⟨boolE ?_, rfl⟩; simp; done) | (refine ⟨boolE ?_, rfl⟩; simp_all; done)
                      )
                   ·try simp only [decide_eq_true_eq, decide_eq_false_iff_not, Bool.not_eq_true', Bool.not_eq_false', Int.not_lt, Int.not_le, Int.toNat_natCast] at hs4
                    first
                     | (exfalso; clear hK12 K12; clear hK11 K11; clear hK10 K10; clear hK9 K9; clear hK8 K8; clear hK5 K5; clear hK4 K4; clear hK2 K2; clear hK1 K1; clear hK0 K0; first | omega | contradiction)
                     | (
                      refine RL.st ?_
                      refine NV.p T ?_
                      refine RL.st ?_
                      refine NV.p T ?_
                      refine RL.st ?_
                      refine NV.p T ?_
                      refine RL.st ?_
                      refine NV.p T ?_
                      refine RL.st ?_
                      refine NV.p T ?_
                      refine RL.split 60 rfl (fun hs5 => ?_) (fun hs5 => ?_)
                      ·try simp only [decide_eq_true_eq, decide_eq_false_iff_not, Bool.not_eq_true', Bool.not_eq_false', Int.not_lt, Int.not_le, Int.toNat_natCast] at hs5
                       first
                        | (exfalso; clear hK12 K12; clear hK11 K11; clear hK10 K10; clear hK9 K9; clear hK8 K8; clear hK5 K5; clear hK4 K4; clear hK2 K2; clear hK1 K1; clear hK0 K0; first | omega | contradiction)
                        | (
                         refine RL.guard_no rfl rfl rfl ?_
                         refine RL.guard_no rfl rfl rfl ?_
                         refine RL.guard_no rfl rfl rfl ?_
                         refine RL.st ?_
                         refine NV.p T ?_
                         refine RL.nil _ _ _ _ ?_
                         refine hK12 _ _ _ ?_
                         refine SW.cond_t rfl ?_
                         refine SW.seq_k ?_
                         intro K17 hK17
                         refine SW.region _ _ _ _ ?_
                         refine RL.st ?_
                         refine NV.p T ?_
                         refine RL.nil _ _ _ _ ?_
                         refine hK17 _ _ _ ?_
                         refine SW.ret ?_
                         refine retQ.ret (H' := H) (RVs.tmp (by conv => lhs; whnf) RVs.nil) (fun w hw => Sat.sub (by repeat first | exact List.Sublist.refl _ | apply List.Sublist.cons_cons | apply List.Sublist.cons | exact List.sublist_append_right _ _ | refine List.Sublist.trans ?_ (List.sublist_append_right _ _)) hw) ?_
                         clear hK17 K17 hK12 K12 hK11 K11 hK10 K10 hK9 K9 hK8 K8 hK5 K5 hK4 K4 hK2 K2 hK1 K1 hK0 K0
                         first | exact ⟨rfl, rfl⟩ | (refine ⟨boolE ?_, rfl⟩; simp; done) | (refine ⟨boolE ?_, rfl⟩; simp_all; done)
                         )
                      ·try simp only [decide_eq_true_eq, decide_eq_false_iff_not, Bool.not_eq_true', Bool.not_eq_false', Int.not_lt, Int.not_le, Int.toNat_natCast] at hs5
                       first
                        | (exfalso; clear hK12 K12; clear hK11 K11; clear hK10 K10; clear hK9 K9; clear hK8 K8; clear hK5 K5; clear hK4 K4; clear hK2 K2; clear hK1 K1; clear hK0 K0; first | omega | contradiction)
                        | (
                         refine RL.st ?_
                         refine NV.p T ?_
                         refine RL.st ?_
                         refine NV.p T ?_
                         refine RL.st ?_
                         refine NV.p T ?_
                         refine RL.st ?_
                         refine NV.p T ?_
                         refine RL.nil _ _ _ _ ?_
                         refine hK12 _ _ _ ?_
                         refine SW.cond rfl (fun hc2 => ?_) (fun hc2 => ?_)
                         ·try simp only [decide_eq_true_eq, decide_eq_false_iff_not, Bool.not_eq_true', Bool.not_eq_false', Int.not_lt, Int.not_le, Int.toNat_natCast] at hc2
                          first
                           | (exfalso; clear hK12 K12; clear hK11 K11; clear hK10 K10; clear hK9 K9; clear hK8 K8; clear hK5 K5; clear hK4 K4; clear hK2 K2; clear hK1 K1; clear hK0 K0; first | omega | contradiction)
                           | (
                            refine SW.seq_k ?_
                            intro K18 hK18
                            refine SW.region _ _ _ _ ?_
                            refine RL.st ?_
                            refine NV.p T ?_
                            refine RL.nil _ _ _ _ ?_
                            refine hK18 _ _ _ ?_
                            refine SW.ret ?_
                            refine retQ.ret (H' := H) (RVs.tmp (by conv => lhs; whnf) RVs.nil) (fun w hw => Sat.sub (by repeat first | exact List.Sublist.refl _ | apply List.Sublist.cons_cons | apply List.Sublist.cons | exact List.sublist_append_right _ _ | refine List.Sublist.trans ?_ (List.sublist_append_right _ _)) hw) ?_
                            clear hK18 K18 hK12 K12 hK11 K11 hK10 K10 hK9 K9 hK8 K8 hK5 K5 hK4 K4 hK2 K2 hK1 K1 hK0 K0
                            first | exact ⟨rfl, rfl⟩ | (refine ⟨boolE ?_, rfl⟩; simp; done) | (refine ⟨boolE ?_, rfl⟩; simp_all; done)
                            )
                         ·try simp only [decide_eq_true_eq, decide_eq_false_iff_not, Bool.not_eq_true', Bool.not_eq_false', Int.not_lt, Int.not_le, Int.toNat_natCast] at hc2
                          first
                           | (exfalso; clear hK12 K12; clear hK11 K11; clear hK10 K10; clear hK9 K9; clear hK8 K8; clear hK5 K5; clear hK4 K4; clear hK2 K2; clear hK1 K1; clear hK0 K0; first | omega | contradiction)
                           | (
                            refine SW.skip ?_
                            refine hK11 _ _ _ ?_
                            refine SW.seq_k ?_
                            intro K19 hK19
                            refine SW.region _ _ _ _ ?_
                            refine RL.st ?_
                            refine NV.p T ?_
                            refine RL.nil _ _ _ _ ?_
                            refine hK19 _ _ _ ?_
                            refine SW.seq_k ?_
                            intro K20 hK20
                            refine SW.seq_k ?_
                            intro K21 hK21
                            refine SW.region _ _ _ _ ?_
                            refine RL.st ?_
                            refine NV.p T ?_
                            refine RL.st ?_
                            refine NV.p T ?_
                            refine RL.st ?_
                            refine NV.p T ?_
                            refine RL.nil _ _ _ _ ?_
                            refine hK21 _ _ _ ?_
                            refine SW.block ?_
                            refine SW.loopM (fun frB mm fr ds HH => ∃ (k : Nat) (d : Int), mm = 4 - k ∧ (k ≤ 4 ∧ (d = cntD (tallyT i) (tallyT i2) k)) ∧ FrIs [11, 12, 67, 68, 69, 70, 71, 72, 73, 74, 75, 76, 77, 78, 79, 80, 81] frB fr [(67, .int .i64 k), (11, .int .i64 d)] ∧ ds = [] ∧ HH = (.row s2 4 k2 5 1 ((tallyT i2).map (.int .u8)) :: .row s1 4 k1 5 1 ((tallyT i).map (.int .u8)) :: H)) (n := 4 - 0) ?_ ?_
                            ·exact ⟨0, 0, rfl, ⟨Nat.zero_le _, rfl⟩, (.cons rfl (.consI rfl (by omega) (.nil (by repeat first | exact Mx.refl | exact Mx.mix | refine Mx.put rfl ?_ | refine Mx.upd rfl ?_ | refine Mx.updl rfl ?_ | refine Mx.fin rfl ?_ | refine Mx.inner rfl ?_ | refine Mx.none ?_)))), rfl, rfl⟩
                            ·rintro mm fr ds HH ⟨k, d, rfl, ⟨hk, hdk⟩, hFr, rfl, eHH⟩
                             obtain rfl := eHH.symm
                             obtain ⟨frU, rfl⟩ := hFr.eq
                             clear hFr
                             have hdr := cntD_range (tallyT i) (tallyT i2) k
                             refine SW.seq_k ?_
                             intro K22 hK22
                             refine SW.region _ _ _ _ ?_
                             refine RL.st ?_
                             refine NV.p T ?_
                             refine RL.nil _ _ _ _ ?_
                             refine hK22 _ _ _ ?_
                             refine SW.seq_k ?_
                             intro K23 hK23
                             refine SW.cond rfl (fun hc3 => ?_) (fun hc3 => ?_)
                             ·try simp only [decide_eq_true_eq, decide_eq_false_iff_not, Bool.not_eq_true', Bool.not_eq_false', Int.not_lt, Int.not_le, Int.toNat_natCast] at hc3
                              first
                               | (exfalso; clear hK23 K23; clear hK22 K22; clear hK21 K21; clear hK20 K20; clear hK19 K19; clear hK12 K12; clear hK11 K11; clear hK10 K10; clear hK9 K9; clear hK8 K8; clear hK5 K5; clear hK4 K4; clear hK2 K2; clear hK1 K1; clear hK0 K0; first | omega | contradiction)
                               | (
                                refine SW.skip ?_
                                refine hK23 _ _ _ ?_
                                refine SW.seq_k ?_
                                intro K24 hK24
                                refine SW.block ?_
                                refine SW.seq_k ?_
                                intro K25 hK25
                                refine SW.region _ _ _ _ ?_
                                refine RL.st ?_
                                refine NV.p T ?_
                                refine RL.st ?_
                                refine NV.p T ?_
                                refine RL.nil _ _ _ _ ?_
                                refine hK25 _ _ _ ?_
                                refine SW.seq_k ?_
                                intro K26 hK26
                                refine SW.sat (fun hs => ?_)
                                refine SW.draw [(70, 0), (71, 1), (72, 2), (73, 3), (74, 4), (75, 5), (76, 6), (77, 7), (78, 8)] [[], [], [0, 1], [2, 0, 1], [], [], [4, 5], [6, 4, 5], [3, 2, 0, 1, 7, 6, 4, 5]] mixed (by kernel_rfl) (by kernel_rfl) ?_
                                refine RD.q rfl rfl (Gd.none rfl) (pev_sound T (by conv => lhs; whnf; arg 1; whnf)) ?_
                                refine RD.q rfl rfl (Gd.none rfl) (pev_sound T (by conv => lhs; whnf; arg 1; whnf)) ?_
                                refine RD.q rfl rfl (Gd.none rfl) (by first | exact QV.indexAddr_array T rfl rfl rfl rfl rfl (by omega) (by omega) | exact QV.indexAddr_slice T rfl rfl rfl rfl rfl (Rd.some (Rd.row (by repeat first | exact At.head _ _ | apply At.tail | apply At.app) hs) (by omega)) (by omega) (by omega)) ?_
                                refine RD.q rfl rfl (Gd.none rfl) (by first | exact QV.load_var1 T rfl rfl rfl rfl (by repeat first | exact At.head _ _ | assumption | exact At.put (by assumption) _ | apply At.tail | apply At.app) rfl | exact QV.load_varN T rfl rfl rfl rfl rfl (by repeat first | exact At.head _ _ | assumption | exact At.put (by assumption) _ | apply At.tail | apply At.app) (by exact (rfl : _ = [_])) rfl | exact QV.load_elem T rfl rfl rfl rfl (Rd.row (by repeat first | exact At.head _ _ | apply At.tail | apply At.app) hs) (by first | exact map_get _ _ (by omega) | assumption)) ?_
                                refine RD.q rfl rfl (Gd.none rfl) (pev_sound T (by conv => lhs; whnf; arg 1; whnf)) ?_
                                refine RD.q rfl rfl (Gd.none rfl) (pev_sound T (by conv => lhs; whnf; arg 1; whnf)) ?_
                                refine RD.q rfl rfl (Gd.none rfl) (by first | exact QV.indexAddr_array T rfl rfl rfl rfl rfl (by omega) (by omega) | exact QV.indexAddr_slice T rfl rfl rfl rfl rfl (Rd.some (Rd.row (by repeat first | exact At.head _ _ | apply At.tail | apply At.app) hs) (by omega)) (by omega) (by omega)) ?_
                                refine RD.q rfl rfl (Gd.none rfl) (by first | exact QV.load_var1 T rfl rfl rfl rfl (by repeat first | exact At.head _ _ | assumption | exact At.put (by assumption) _ | apply At.tail | apply At.app) rfl | exact QV.load_varN T rfl rfl rfl rfl rfl (by repeat first | exact At.head _ _ | assumption | exact At.put (by assumption) _ | apply At.tail | apply At.app) (by exact (rfl : _ = [_])) rfl | exact QV.load_elem T rfl rfl rfl rfl (Rd.row (by repeat first | exact At.head _ _ | apply At.tail | apply At.app) hs) (by first | exact map_get _ _ (by omega) | assumption)) ?_
                                refine RD.q rfl rfl (Gd.none rfl) (pev_sound T (by conv => lhs; whnf; arg 1; whnf)) ?_
                                refine RD.k rfl rfl ?_
                                refine hK26 _ _ _ ?_
                                refine SW.cond rfl (fun hc4 => ?_) (fun hc4 => ?_)
                                ·try simp only [decide_eq_true_eq, decide_eq_false_iff_not, Bool.not_eq_true', Bool.not_eq_false', Int.not_lt, Int.not_le, Int.toNat_natCast] at hc4
                                 first
                                  | (exfalso; clear hK26 K26; clear hK25 K25; clear hK24 K24; clear hK23 K23; clear hK22 K22; clear hK21 K21; clear hK20 K20; clear hK19 K19; clear hK12 K12; clear hK11 K11; clear hK10 K10; clear hK9 K9; clear hK8 K8; clear hK5 K5; clear hK4 K4; clear hK2 K2; clear hK1 K1; clear hK0 K0; first | omega | contradiction)
                                  | (
                                   refine SW.region _ _ _ _ ?_
                                   refine RL.st ?_
                                   refine NV.p T ?_
                                   refine RL.st ?_
                                   first | refine NV.arith rfl rfl rfl rfl (by omega) (by omega) ?_ | refine NV.p T ?_
                                   refine RL.st ?_
                                   refine NV.p T ?_
                                   refine RL.nil _ _ _ _ ?_
                                   refine hK24 _ _ _ ?_
                                   refine SW.region _ _ _ _ ?_
                                   refine RL.st ?_
                                   first | refine NV.arith rfl rfl rfl rfl (by omega) (by omega) ?_ | refine NV.p T ?_
                                   refine RL.st ?_
                                   refine NV.p T ?_
                                   refine RL.nil _ _ _ _ ?_
                                   first
                                     | exact ⟨4 - (k + 1), (by omega), k + 1, d + 1, (by rfl), ⟨by omega, by rw [cntD, if_neg (by omega), ← hdk]⟩, (.cons rfl (.consI rfl (by omega) (.nil (by repeat first | exact Mx.refl | exact Mx.mix | refine Mx.put rfl ?_ | refine Mx.upd rfl ?_ | refine Mx.updl rfl ?_ | refine Mx.fin rfl ?_ | refine Mx.inner rfl ?_ | refine Mx.none ?_)))), rfl, rfl⟩
                                     | exact ⟨4 - (k + 1), (by omega), k + 1, d, (by rfl), ⟨by omega, by rw [cntD, if_pos (by omega), ← hdk]⟩, (.cons rfl (.consI rfl (by omega) (.nil (by repeat first | exact Mx.refl | exact Mx.mix | refine Mx.put rfl ?_ | refine Mx.upd rfl ?_ | refine Mx.updl rfl ?_ | refine Mx.fin rfl ?_ | refine Mx.inner rfl ?_ | refine Mx.none ?_)))), rfl, rfl⟩
                                   )
                                ·try simp only [decide_eq_true_eq, decide_eq_false_iff_not, Bool.not_eq_true', Bool.not_eq_false', Int.not_lt, Int.not_le, Int.toNat_natCast] at hc4
                                 first
                                  | (exfalso; clear hK26 K26; clear hK25 K25; clear hK24 K24; clear hK23 K23; clear hK22 K22; clear hK21 K21; clear hK20 K20; clear hK19 K19; clear hK12 K12; clear hK11 K11; clear hK10 K10; clear hK9 K9; clear hK8 K8; clear hK5 K5; clear hK4 K4; clear hK2 K2; clear hK1 K1; clear hK0 K0; first | omega | contradiction)
                                  | (
                                   refine SW.skip ?_
                                   refine hK24 _ _ _ ?_
                                   refine SW.region _ _ _ _ ?_
                                   refine RL.st ?_
                                   first | refine NV.arith rfl rfl rfl rfl (by omega) (by omega) ?_ | refine NV.p T ?_
                                   refine RL.st ?_
                                   refine NV.p T ?_
                                   refine RL.nil _ _ _ _ ?_
                                   first
                                     | exact ⟨4 - (k + 1), (by omega), k + 1, d + 1, (by rfl), ⟨by omega, by rw [cntD, if_neg (by omega), ← hdk]⟩, (.cons rfl (.consI rfl (by omega) (.nil (by repeat first | exact Mx.refl | exact Mx.mix | refine Mx.put rfl ?_ | refine Mx.upd rfl ?_ | refine Mx.updl rfl ?_ | refine Mx.fin rfl ?_ | refine Mx.inner rfl ?_ | refine Mx.none ?_)))), rfl, rfl⟩
                                     | exact ⟨4 - (k + 1), (by omega), k + 1, d, (by rfl), ⟨by omega, by rw [cntD, if_pos (by omega), ← hdk]⟩, (.cons rfl (.consI rfl (by omega) (.nil (by repeat first | exact Mx.refl | exact Mx.mix | refine Mx.put rfl ?_ | refine Mx.upd rfl ?_ | refine Mx.updl rfl ?_ | refine Mx.fin rfl ?_ | refine Mx.inner rfl ?_ | refine Mx.none ?_)))), rfl, rfl⟩
                                   )
                                )
                             ·try simp only [decide_eq_true_eq, decide_eq_false_iff_not, Bool.not_eq_true', Bool.not_eq_false', Int.not_lt, Int.not_le, Int.toNat_natCast] at hc3
                              first
                               | (exfalso; clear hK23 K23; clear hK22 K22; clear hK21 K21; clear hK20 K20; clear hK19 K19; clear hK12 K12; clear hK11 K11; clear hK10 K10; clear hK9 K9; clear hK8 K8; clear hK5 K5; clear hK4 K4; clear hK2 K2; clear hK1 K1; clear hK0 K0; first | omega | contradiction)
                               | (
                                refine SW.exit ?_
                                refine hK20 _ _ _ ?_
                                refine SW.seq_k ?_
                                intro K27 hK27
                                refine SW.region _ _ _ _ ?_
                                refine RL.st ?_
                                refine NV.p T ?_
                                refine RL.st ?_
                                refine NV.p T ?_
                                refine RL.st ?_
                                first | refine NV.rem rfl rfl rfl (by omega) hm8 ?_ | refine NV.rem rfl rfl rfl (by omega) ha4 ?_
                                refine RL.st ?_
                                refine NV.sat (fun hs => ?_) (fun c hc => by cases hc)
                                first
                                  | refine NV.index_array T rfl rfl rfl rfl rfl (by omega) (by omega) ?_
                                  | refine NV.index_slice T rfl rfl rfl rfl rfl (Rd.row (by repeat first | exact At.head _ _ | apply At.tail | apply At.app) hs) (by omega) (by omega) ?_
                                refine RL.st ?_
                                refine NV.sat (fun hs => ?_) (fun c hc => by cases hc)
                                refine NV.load_elem T rfl rfl rfl rfl (Rd.row (by repeat first | exact At.head _ _ | apply At.tail | apply At.app) hs) (by first | exact map_get _ _ (by omega) | assumption) ?_
                                refine RL.st ?_
                                refine NV.p T ?_
                                refine RL.st ?_
                                refine NV.sat (fun hs => ?_) (fun c hc => by cases hc)
                                first
                                  | refine NV.index_array T rfl rfl rfl rfl rfl (by omega) (by omega) ?_
                                  | refine NV.index_slice T rfl rfl rfl rfl rfl (Rd.row (by repeat first | exact At.head _ _ | apply At.tail | apply At.app) hs) (by omega) (by omega) ?_
                                refine RL.st ?_
                                first
                                  | refine NV.store_var1 T rfl rfl rfl rfl (by conv => lhs; whnf) rfl (by repeat first | exact At.head _ _ | assumption | exact At.put (by assumption) _ | apply At.tail | apply At.app) rfl rfl ?_
                                  | refine NV.store_var T rfl rfl rfl (by exact (rfl : _ = [_])) rfl rfl (by repeat first | exact At.head _ _ | assumption | exact At.put (by assumption) _ | apply At.tail | apply At.app) (Nat.le_of_ble_eq_true rfl) rfl ?_
                                  | refine NV.store_elem T rfl rfl rfl rfl (by conv => lhs; whnf) rfl (by repeat first | exact At.head _ _ | assumption | exact At.put (by assumption) _ | apply At.tail | apply At.app) (by simp; omega) ?_
                                refine RL.nil _ _ _ _ ?_
                                refine hK27 _ _ _ ?_
                                refine SW.seq_k ?_
                                intro K28 hK28
                                have hd4 : d = 2 := by rw [hdk, show k = 4 by omega]; exact hd
                                refine SW.region _ _ _ _ ?_
                                refine RL.st ?_
                                refine NV.p T ?_
                                refine RL.st ?_
                                refine NV.sat (fun hs => ?_) (fun c hc => by cases hc)
                                refine NV.call rfl rfl rfl fun21 rfl rfl ((ftells s1 4 k1 _ ((Rd.row (by repeat first | exact At.head _ _ | apply At.tail | apply At.app) hs).as (set_map (tallyT i) j hx)) (by simp; omega) (by omega) b2).mono (fun v H' h => by rw [hf] at h; dsimp only at h; exact h)) ?_
                                rintro _ _ ⟨rfl, e⟩; obtain rfl := e.symm
                                refine RL.st ?_
                                refine NV.p T ?_
                                refine RL.st ?_
                                refine NV.p T ?_
                                refine RL.st ?_
                                refine NV.p T ?_
                                refine RL.st ?_
                                refine NV.p T ?_
                                refine RL.st ?_
                                refine NV.p T ?_
                                refine RL.nil _ _ _ _ ?_
                                refine hK28 _ _ _ ?_
                                refine SW.seq_k ?_
                                intro K29 hK29
                                refine SW.region _ _ _ _ ?_
                                refine RL.st ?_
                                refine NV.p T ?_
                                refine RL.st ?_
                                refine NV.p T ?_
                                refine RL.st ?_
                                refine NV.p T ?_
                                refine RL.split 96 rfl (fun hs6 => ?_) (fun hs6 => ?_)
                                ·try simp only [decide_eq_true_eq, decide_eq_false_iff_not, Bool.not_eq_true', Bool.not_eq_false', Int.not_lt, Int.not_le, Int.toNat_natCast] at hs6
                                 first
                                  | (exfalso; clear hK29 K29; clear hK28 K28; clear hK27 K27; clear hK23 K23; clear hK22 K22; clear hK21 K21; clear hK20 K20; clear hK19 K19; clear hK12 K12; clear hK11 K11; clear hK10 K10; clear hK9 K9; clear hK8 K8; clear hK5 K5; clear hK4 K4; clear hK2 K2; clear hK1 K1; clear hK0 K0; first | omega | contradiction)
                                  | (
                                   refine RL.st ?_
                                   refine NV.p T ?_
                                   refine RL.st ?_
                                   refine NV.p T ?_
                                   refine RL.st ?_
                                   refine NV.p T ?_
                                   refine RL.st ?_
                                   refine NV.p T ?_
                                   refine RL.nil _ _ _ _ ?_
                                   refine hK29 _ _ _ ?_
                                   refine SW.ret ?_
                                   refine retQ.ret (H' := H) (RVs.tmp (by conv => lhs; whnf) RVs.nil) (fun w hw => Sat.sub (by repeat first | exact List.Sublist.refl _ | apply List.Sublist.cons_cons | apply List.Sublist.cons | exact List.sublist_append_right _ _ | refine List.Sublist.trans ?_ (List.sublist_append_right _ _)) hw) ?_
                                   clear hK29 K29 hK28 K28 hK27 K27 hK23 K23 hK22 K22 hK21 K21 hK20 K20 hK19 K19 hK12 K12 hK11 K11 hK10 K10 hK9 K9 hK8 K8 hK5 K5 hK4 K4 hK2 K2 hK1 K1 hK0 K0
                                   first | exact ⟨rfl, rfl⟩ | (refine ⟨boolE ?_, rfl⟩; simp; done) | (refine ⟨boolE ?_, rfl⟩; simp_all; done)
                                   )
                                ·try simp only [decide_eq_true_eq, decide_eq_false_iff_not, Bool.not_eq_true', Bool.not_eq_false', Int.not_lt, Int.not_le, Int.toNat_natCast] at hs6
                                 first
                                  | (exfalso; clear hK29 K29; clear hK28 K28; clear hK27 K27; clear hK23 K23; clear hK22 K22; clear hK21 K21; clear hK20 K20; clear hK19 K19; clear hK12 K12; clear hK11 K11; clear hK10 K10; clear hK9 K9; clear hK8 K8; clear hK5 K5; clear hK4 K4; clear hK2 K2; clear hK1 K1; clear hK0 K0; first | omega | contradiction)
                                  | (
                                   refine RL.guard_no rfl rfl rfl ?_
                                   refine RL.guard_no rfl rfl rfl ?_
                                   refine RL.st ?_
                                   refine NV.p T ?_
                                   refine RL.st ?_
                                   refine NV.p T ?_
                                   refine RL.nil _ _ _ _ ?_
                                   refine hK29 _ _ _ ?_
                                   refine SW.ret ?_
                                   refine retQ.ret (H' := H) (RVs.tmp (by conv => lhs; whnf) RVs.nil) (fun w hw => Sat.sub (by repeat first | exact List.Sublist.refl _ | apply List.Sublist.cons_cons | apply List.Sublist.cons | exact List.sublist_append_right _ _ | refine List.Sublist.trans ?_ (List.sublist_append_right _ _)) hw) ?_
                                   clear hK29 K29 hK28 K28 hK27 K27 hK23 K23 hK22 K22 hK21 K21 hK20 K20 hK19 K19 hK12 K12 hK11 K11 hK10 K10 hK9 K9 hK8 K8 hK5 K5 hK4 K4 hK2 K2 hK1 K1 hK0 K0
                                   first | exact ⟨rfl, rfl⟩ | (refine ⟨boolE ?_, rfl⟩; simp; done) | (refine ⟨boolE ?_, rfl⟩; simp_all; done)
                                   )
                                )
                            )
                         )
                      )
                   )
                )
             )
          )
       )
    )
theorem fixedTallies {w0 : World} {H : List Chunk} (m w : Int) (w0' : 0 ≤ w) (m1 : m ≤ 9223372036854775807) : SC Try.prog w0 8 #[.int .i64 m, .int .u8 w] H (fun v H' => v = .bool true ∧ H' = H) := by
  by_cases h : m < 0 ∨ m = 9223372036854775807
  · exact tallies_no m w h
  · have h8 : m.tmod 8 = m % 8 := Int.tmod_eq_emod_of_nonneg (by omega)
    have h9 : (m + 1).tmod 8 = (m + 1) % 8 := Int.tmod_eq_emod_of_nonneg (by omega)
    have h4 : w.tmod 4 = w % 4 := Int.tmod_eq_emod_of_nonneg w0'
    have hl : (m.tmod 8).toNat < 8 := by omega
    obtain ⟨t1, t2, t3, t4, t5⟩ := tally_tells _ hl
    have hi2 : ((m + 1).tmod 8).toNat = ((m.tmod 8).toNat + 1) % 8 := by omega
    obtain ⟨_, _, _, _, u5⟩ := tally_tells (((m.tmod 8).toNat + 1) % 8) (by omega)
    have hj : (w.tmod 4).toNat < 4 := by omega
    have hb : Bit (tallyT (m.tmod 8).toNat) := fun q => by
      by_cases hq : q < 4
      · exact t4 q hq
      · rw [List.getD_eq_getElem?_getD, List.getElem?_eq_none (by omega)]; exact ⟨Int.le_refl _, by decide⟩
    exact tallies_ok m w (by omega) (by omega) w0' _ _ (w.tmod 4).toNat (by omega) rfl hi2 (by omega) hj t5 u5 hb.byte t1 t2 (t3 _ hj) (xor1 (hb _).1 (hb _).2) (Bit.set1 hb _)
end Go.Proofs.Ytdcahmifalabnaa.M
