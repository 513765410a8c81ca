import Derived.Test.YtilffbgepliamaaProg
import Derived.Test.YtilffbgepliamaaFF3
import Derived.Test.YtilffbgepliamaaP3c
set_option linter.unusedVariables false
set_option linter.unusedSimpArgs false
namespace Go.Proofs.Ytilffbgepliamaa.M
open Go Go.Sep Go.Proofs
set_option maxRecDepth 10000
set_option maxHeartbeats 2000000
theorem parts_no {w0 : World} {H : List Chunk} (sa : Option Addr) (n c : Nat) (es : List Int) (hR : ∀ H, Rd w0 H sa n c 1 (es.map (.int .u8))) (hn : n = es.length) (hm : n ≤ 140737488351232) (hb : Byte es) (sar : Option Addr) (nr cr : Nat) (esr : List Int) (hRr : ∀ H, Rd w0 H sar nr cr 1 (esr.map (.int .u8))) (hnr : nr = esr.length) (hmr : nr ≤ 140737488351232) (hbr : Byte esr) (w : Int) (h : 2000 < n ∨ 2000 < nr ∨ chk es ≠ 0 ∨ chk esr ≠ 0) : SC Try.prog w0 7 #[.slice sa n c, .slice sar nr cr, .int .u16 w] H (fun v H' => v = .bool true ∧ H' = H) := by
 refine SC.enter Try.func7 rfl (Nat.le_of_ble_eq_true rfl) ?_
 refine SW.seq_k ?_
 intro K0 hK0
 refine SW.region _ _ _ _ ?_
 refine RL.st ?_
 refine NV.p T ?_
 refine RL.nil _ _ _ _ ?_
 refine hK0 _ _ _ ?_
 refine SW.seq_k ?_
 intro K1 hK1
 refine SW.seq_k ?_
 intro K2 hK2
 refine SW.region _ _ _ _ ?_
 refine RL.st ?_
 refine NV.call rfl rfl rfl fun9 rfl rfl (alive) ?_
 rintro _ _ ⟨rfl, e⟩; obtain rfl := e.symm
 refine RL.st ?_
 refine NV.p T ?_
 refine RL.nil _ _ _ _ ?_
 refine hK2 _ _ _ ?_
 refine SW.cond rfl (fun hc0 => ?_) (fun hc0 => ?_)
 ·try simp only [decide_eq_true_eq, decide_eq_false_iff_not, Bool.not_eq_true', Bool.not_eq_false', Int.not_lt, Int.not_le, Int.toNat_natCast] at hc0
  first
   | (exfalso; clear hK2 K2; clear hK1 K1; clear hK0 K0; first | omega | contradiction)
   | (
    refine SW.seq_k ?_
    intro K3 hK3
    refine SW.region _ _ _ _ ?_
    refine RL.st ?_
    refine NV.p T ?_
    refine RL.nil _ _ _ _ ?_
    refine hK3 _ _ _ ?_
    refine SW.ret ?_
    refine retQ.ret (H' := H) (RVs.tmp (by conv => lhs; whnf) RVs.nil) (fun w hw => Sat.sub (by repeat first | exact List.Sublist.refl _ | apply List.Sublist.cons_cons | apply List.Sublist.cons | exact List.sublist_append_right _ _ | refine List.Sublist.trans ?_ (List.sublist_append_right _ _)) hw) ?_
    clear hK3 K3 hK2 K2 hK1 K1 hK0 K0
    first | exact ⟨rfl, rfl⟩ | (refine ⟨boolE ?_, rfl⟩; simp; done) | (refine ⟨boolE ?_, rfl⟩; simp_all; done)
    )
 ·try simp only [decide_eq_true_eq, decide_eq_false_iff_not, Bool.not_eq_true', Bool.not_eq_false', Int.not_lt, Int.not_le, Int.toNat_natCast] at hc0
  first
   | (exfalso; clear hK2 K2; clear hK1 K1; clear hK0 K0; first | omega | contradiction)
   | (
    refine SW.skip ?_
    refine hK1 _ _ _ ?_
    refine SW.seq_k ?_
    intro K4 hK4
    refine SW.seq_k ?_
    intro K5 hK5
    refine SW.region _ _ _ _ ?_
    refine RL.st ?_
    refine NV.p T ?_
    refine RL.st ?_
    refine NV.p T ?_
    refine RL.st ?_
    refine NV.p T ?_
    refine RL.st ?_
    refine NV.p T ?_
    refine RL.split 20 rfl (fun hs0 => ?_) (fun hs0 => ?_)
    ·try simp only [decide_eq_true_eq, decide_eq_false_iff_not, Bool.not_eq_true', Bool.not_eq_false', Int.not_lt, Int.not_le, Int.toNat_natCast] at hs0
     first
      | (exfalso; clear hK5 K5; clear hK4 K4; clear hK2 K2; clear hK1 K1; clear hK0 K0; first | omega | contradiction)
      | (
       refine RL.guard_no rfl rfl rfl ?_
       refine RL.guard_no rfl rfl rfl ?_
       refine RL.guard_no rfl rfl rfl ?_
       refine RL.st ?_
       refine NV.p T ?_
       refine RL.st ?_
       refine NV.p T ?_
       refine RL.guard_no rfl rfl rfl ?_
       refine RL.guard_no rfl rfl rfl ?_
       refine RL.guard_no rfl rfl rfl ?_
       refine RL.st ?_
       refine NV.p T ?_
       refine RL.st ?_
       refine NV.p T ?_
       refine RL.guard_no rfl rfl rfl ?_
       refine RL.guard_no rfl rfl rfl ?_
       refine RL.guard_no rfl rfl rfl ?_
       refine RL.st ?_
       refine NV.p T ?_
       refine RL.nil _ _ _ _ ?_
       refine hK5 _ _ _ ?_
       refine SW.cond_t rfl ?_
       refine SW.seq_k ?_
       intro K6 hK6
       refine SW.region _ _ _ _ ?_
       refine RL.st ?_
       refine NV.p T ?_
       refine RL.nil _ _ _ _ ?_
       refine hK6 _ _ _ ?_
       refine SW.ret ?_
       refine retQ.ret (H' := H) (RVs.tmp (by conv => lhs; whnf) RVs.nil) (fun w hw => Sat.sub (by repeat first | exact List.Sublist.refl _ | apply List.Sublist.cons_cons | apply List.Sublist.cons | exact List.sublist_append_right _ _ | refine List.Sublist.trans ?_ (List.sublist_append_right _ _)) hw) ?_
       clear hK6 K6 hK5 K5 hK4 K4 hK2 K2 hK1 K1 hK0 K0
       first | exact ⟨rfl, rfl⟩ | (refine ⟨boolE ?_, rfl⟩; simp; done) | (refine ⟨boolE ?_, rfl⟩; simp_all; done)
       )
    ·try simp only [decide_eq_true_eq, decide_eq_false_iff_not, Bool.not_eq_true', Bool.not_eq_false', Int.not_lt, Int.not_le, Int.toNat_natCast] at hs0
     first
      | (exfalso; clear hK5 K5; clear hK4 K4; clear hK2 K2; clear hK1 K1; clear hK0 K0; first | omega | contradiction)
      | (
       refine RL.st ?_
       refine NV.p T ?_
       refine RL.st ?_
       refine NV.p T ?_
       refine RL.st ?_
       refine NV.p T ?_
       refine RL.st ?_
       refine NV.p T ?_
       refine RL.st ?_
       refine NV.p T ?_
       refine RL.split 25 rfl (fun hs1 => ?_) (fun hs1 => ?_)
       ·try simp only [decide_eq_true_eq, decide_eq_false_iff_not, Bool.not_eq_true', Bool.not_eq_false', Int.not_lt, Int.not_le, Int.toNat_natCast] at hs1
        first
         | (exfalso; clear hK5 K5; clear hK4 K4; clear hK2 K2; clear hK1 K1; clear hK0 K0; first | omega | contradiction)
         | (
          refine RL.guard_no rfl rfl rfl ?_
          refine RL.guard_no rfl rfl rfl ?_
          refine RL.guard_no rfl rfl rfl ?_
          refine RL.st ?_
          refine NV.p T ?_
          refine RL.st ?_
          refine NV.p T ?_
          refine RL.guard_no rfl rfl rfl ?_
          refine RL.guard_no rfl rfl rfl ?_
          refine RL.guard_no rfl rfl rfl ?_
          refine RL.st ?_
          refine NV.p T ?_
          refine RL.nil _ _ _ _ ?_
          refine hK5 _ _ _ ?_
          refine SW.cond_t rfl ?_
          refine SW.seq_k ?_
          intro K7 hK7
          refine SW.region _ _ _ _ ?_
          refine RL.st ?_
          refine NV.p T ?_
          refine RL.nil _ _ _ _ ?_
          refine hK7 _ _ _ ?_
          refine SW.ret ?_
          refine retQ.ret (H' := H) (RVs.tmp (by conv => lhs; whnf) RVs.nil) (fun w hw => Sat.sub (by repeat first | exact List.Sublist.refl _ | apply List.Sublist.cons_cons | apply List.Sublist.cons | exact List.sublist_append_right _ _ | refine List.Sublist.trans ?_ (List.sublist_append_right _ _)) hw) ?_
          clear hK7 K7 hK5 K5 hK4 K4 hK2 K2 hK1 K1 hK0 K0
          first | exact ⟨rfl, rfl⟩ | (refine ⟨boolE ?_, rfl⟩; simp; done) | (refine ⟨boolE ?_, rfl⟩; simp_all; done)
          )
       ·try simp only [decide_eq_true_eq, decide_eq_false_iff_not, Bool.not_eq_true', Bool.not_eq_false', Int.not_lt, Int.not_le, Int.toNat_natCast] at hs1
        first
         | (exfalso; clear hK5 K5; clear hK4 K4; clear hK2 K2; clear hK1 K1; clear hK0 K0; first | omega | contradiction)
         | (
          refine RL.st ?_
          refine NV.p T ?_
          refine RL.st ?_
          refine NV.call rfl rfl rfl fun18 rfl rfl (check sa n c es (hR _) hn hm) ?_
          rintro _ _ ⟨rfl, e⟩; obtain rfl := e.symm
          refine RL.st ?_
          refine NV.p T ?_
          refine RL.st ?_
          refine NV.p T ?_
          refine RL.st ?_
          refine NV.p T ?_
          refine RL.split 30 rfl (fun hs2 => ?_) (fun hs2 => ?_)
          ·try simp only [decide_eq_true_eq, decide_eq_false_iff_not, Bool.not_eq_true', Bool.not_eq_false', Int.not_lt, Int.not_le, Int.toNat_natCast] at hs2
           first
            | (exfalso; clear hK5 K5; clear hK4 K4; clear hK2 K2; clear hK1 K1; clear hK0 K0; first | omega | contradiction)
            | (
             refine RL.guard_no rfl rfl rfl ?_
             refine RL.guard_no rfl rfl rfl ?_
             refine RL.guard_no rfl rfl rfl ?_
             refine RL.st ?_
             refine NV.p T ?_
             refine RL.nil _ _ _ _ ?_
             refine hK5 _ _ _ ?_
             refine SW.cond_t rfl ?_
             refine SW.seq_k ?_
             intro K8 hK8
             refine SW.region _ _ _ _ ?_
             refine RL.st ?_
             refine NV.p T ?_
             refine RL.nil _ _ _ _ ?_
             refine hK8 _ _ _ ?_
             refine SW.ret ?_
             refine retQ.ret (H' := H) (RVs.tmp (by conv => lhs; whnf) RVs.nil) (fun w hw => Sat.sub (by repeat first | exact List.Sublist.refl _ | apply List.Sublist.cons_cons | apply List.Sublist.cons | exact List.sublist_append_right _ _ | refine List.Sublist.trans ?_ (List.sublist_append_right _ _)) hw) ?_
             clear hK8 K8 hK5 K5 hK4 K4 hK2 K2 hK1 K1 hK0 K0
             first | exact ⟨rfl, rfl⟩ | (refine ⟨boolE ?_, rfl⟩; simp; done) | (refine ⟨boolE ?_, rfl⟩; simp_all; done)
             )
          ·try simp only [decide_eq_true_eq, decide_eq_false_iff_not, Bool.not_eq_true', Bool.not_eq_false', Int.not_lt, Int.not_le, Int.toNat_natCast] at hs2
           first
            | (exfalso; clear hK5 K5; clear hK4 K4; clear hK2 K2; clear hK1 K1; clear hK0 K0; first | omega | contradiction)
            | (
             refine RL.st ?_
             refine NV.p T ?_
             refine RL.st ?_
             refine NV.call rfl rfl rfl fun18 rfl rfl (check sar nr cr esr (hRr _) hnr hmr) ?_
             rintro _ _ ⟨rfl, e⟩; obtain rfl := e.symm
             refine RL.st ?_
             refine NV.p T ?_
             refine RL.st ?_
             refine NV.p T ?_
             refine RL.nil _ _ _ _ ?_
             refine hK5 _ _ _ ?_
             refine SW.cond rfl (fun hc1 => ?_) (fun hc1 => ?_)
             ·try simp only [decide_eq_true_eq, decide_eq_false_iff_not, Bool.not_eq_true', Bool.not_eq_false', Int.not_lt, Int.not_le, Int.toNat_natCast] at hc1
              first
               | (exfalso; clear hK5 K5; clear hK4 K4; clear hK2 K2; clear hK1 K1; clear hK0 K0; first | omega | contradiction)
               | (
                refine SW.seq_k ?_
                intro K9 hK9
                refine SW.region _ _ _ _ ?_
                refine RL.st ?_
                refine NV.p T ?_
                refine RL.nil _ _ _ _ ?_
                refine hK9 _ _ _ ?_
                refine SW.ret ?_
                refine retQ.ret (H' := H) (RVs.tmp (by conv => lhs; whnf) RVs.nil) (fun w hw => Sat.sub (by repeat first | exact List.Sublist.refl _ | apply List.Sublist.cons_cons | apply List.Sublist.cons | exact List.sublist_append_right _ _ | refine List.Sublist.trans ?_ (List.sublist_append_right _ _)) hw) ?_
                clear hK9 K9 hK5 K5 hK4 K4 hK2 K2 hK1 K1 hK0 K0
                first | exact ⟨rfl, rfl⟩ | (refine ⟨boolE ?_, rfl⟩; simp; done) | (refine ⟨boolE ?_, rfl⟩; simp_all; done)
                )
             ·try simp only [decide_eq_true_eq, decide_eq_false_iff_not, Bool.not_eq_true', Bool.not_eq_false', Int.not_lt, Int.not_le, Int.toNat_natCast] at hc1
              exfalso; clear hK5 K5; clear hK4 K4; clear hK2 K2; clear hK1 K1; clear hK0 K0; first | omega | contradiction
             )
          )
       )
    )
theorem parts_ok {w0 : World} {H : List Chunk} (sa : Option Addr) (n c : Nat) (es : List Int) (hR : ∀ H, Rd w0 H sa n c 1 (es.map (.int .u8))) (hn : n = es.length) (hm : n ≤ 140737488351232) (hb : Byte es) (sar : Option Addr) (nr cr : Nat) (esr : List Int) (hRr : ∀ H, Rd w0 H sar nr cr 1 (esr.map (.int .u8))) (hnr : nr = esr.length) (hmr : nr ≤ 140737488351232) (hbr : Byte esr) (w : Int) (w0' : 0 ≤ w) (w1 : w ≤ 65535) (h1 : n ≤ 2000) (h2 : nr ≤ 2000) (hc : chk es = 0) (hcr : chk esr = 0) (k : Nat) (hk : w.tmod ((n : Int) + 1) = (k : Int)) (hkn : k ≤ n) (hnc : n ≤ c) (hx : (stuffed es).length ≤ 6000) (hp : putV es = (stuffed es, 0)) (hp2 : putV (es.take k) = (stuffed (es.take k), 0)) (ht : takeV (stuffed es ++ esr) k = (es.take k, ((stuffed (es.take k)).length : Int), 0)) : SC Try.prog w0 7 #[.slice sa n c, .slice sar nr cr, .int .u16 w] H (fun v H' => v = .bool true ∧ H' = H) := by
 refine SC.enter Try.func7 rfl (Nat.le_of_ble_eq_true rfl) ?_
 refine SW.seq_k ?_
 intro K0 hK0
 refine SW.region _ _ _ _ ?_
 refine RL.st ?_
 refine NV.p T ?_
 refine RL.nil _ _ _ _ ?_
 refine hK0 _ _ _ ?_
 refine SW.seq_k ?_
 intro K1 hK1
 refine SW.seq_k ?_
 intro K2 hK2
 refine SW.region _ _ _ _ ?_
 refine RL.st ?_
 refine NV.call rfl rfl rfl fun9 rfl rfl (alive) ?_
 rintro _ _ ⟨rfl, e⟩; obtain rfl := e.symm
 refine RL.st ?_
 refine NV.p T ?_
 refine RL.nil _ _ _ _ ?_
 refine hK2 _ _ _ ?_
 refine SW.cond rfl (fun hc0 => ?_) (fun hc0 => ?_)
 ·try simp only [decide_eq_true_eq, decide_eq_false_iff_not, Bool.not_eq_true', Bool.not_eq_false', Int.not_lt, Int.not_le, Int.toNat_natCast] at hc0
  first
   | (exfalso; clear hK2 K2; clear hK1 K1; clear hK0 K0; first | omega | contradiction)
   | (
    refine SW.seq_k ?_
    intro K3 hK3
    refine SW.region _ _ _ _ ?_
    refine RL.st ?_
    refine NV.p T ?_
    refine RL.nil _ _ _ _ ?_
    refine hK3 _ _ _ ?_
    refine SW.ret ?_
    refine retQ.ret (H' := H) (RVs.tmp (by conv => lhs; whnf) RVs.nil) (fun w hw => Sat.sub (by repeat first | exact List.Sublist.refl _ | apply List.Sublist.cons_cons | apply List.Sublist.cons | exact List.sublist_append_right _ _ | refine List.Sublist.trans ?_ (List.sublist_append_right _ _)) hw) ?_
    clear hK3 K3 hK2 K2 hK1 K1 hK0 K0
    first | exact ⟨rfl, rfl⟩ | (refine ⟨boolE ?_, rfl⟩; simp; done) | (refine ⟨boolE ?_, rfl⟩; simp_all; done)
    )
 ·try simp only [decide_eq_true_eq, decide_eq_false_iff_not, Bool.not_eq_true', Bool.not_eq_false', Int.not_lt, Int.not_le, Int.toNat_natCast] at hc0
  first
   | (exfalso; clear hK2 K2; clear hK1 K1; clear hK0 K0; first | omega | contradiction)
   | (
    refine SW.skip ?_
    refine hK1 _ _ _ ?_
    refine SW.seq_k ?_
    intro K4 hK4
    refine SW.seq_k ?_
    intro K5 hK5
    refine SW.region _ _ _ _ ?_
    refine RL.st ?_
    refine NV.p T ?_
    refine RL.st ?_
    refine NV.p T ?_
    refine RL.st ?_
    refine NV.p T ?_
    refine RL.st ?_
    refine NV.p T ?_
    refine RL.split 20 rfl (fun hs0 => ?_) (fun hs0 => ?_)
    ·try simp only [decide_eq_true_eq, decide_eq_false_iff_not, Bool.not_eq_true', Bool.not_eq_false', Int.not_lt, Int.not_le, Int.toNat_natCast] at hs0
     first
      | (exfalso; clear hK5 K5; clear hK4 K4; clear hK2 K2; clear hK1 K1; clear hK0 K0; first | omega | contradiction)
      | (
       refine RL.guard_no rfl rfl rfl ?_
       refine RL.guard_no rfl rfl rfl ?_
       refine RL.guard_no rfl rfl rfl ?_
       refine RL.st ?_
       refine NV.p T ?_
       refine RL.st ?_
       refine NV.p T ?_
       refine RL.guard_no rfl rfl rfl ?_
       refine RL.guard_no rfl rfl rfl ?_
       refine RL.guard_no rfl rfl rfl ?_
       refine RL.st ?_
       refine NV.p T ?_
       refine RL.st ?_
       refine NV.p T ?_
       refine RL.guard_no rfl rfl rfl ?_
       refine RL.guard_no rfl rfl rfl ?_
       refine RL.guard_no rfl rfl rfl ?_
       refine RL.st ?_
       refine NV.p T ?_
       refine RL.nil _ _ _ _ ?_
       refine hK5 _ _ _ ?_
       refine SW.cond_t rfl ?_
       refine SW.seq_k ?_
       intro K6 hK6
       refine SW.region _ _ _ _ ?_
       refine RL.st ?_
       refine NV.p T ?_
       refine RL.nil _ _ _ _ ?_
       refine hK6 _ _ _ ?_
       refine SW.ret ?_
       refine retQ.ret (H' := H) (RVs.tmp (by conv => lhs; whnf) RVs.nil) (fun w hw => Sat.sub (by repeat first | exact List.Sublist.refl _ | apply List.Sublist.cons_cons | apply List.Sublist.cons | exact List.sublist_append_right _ _ | refine List.Sublist.trans ?_ (List.sublist_append_right _ _)) hw) ?_
       clear hK6 K6 hK5 K5 hK4 K4 hK2 K2 hK1 K1 hK0 K0
       first | exact ⟨rfl, rfl⟩ | (refine ⟨boolE ?_, rfl⟩; simp; done) | (refine ⟨boolE ?_, rfl⟩; simp_all; done)
       )
    ·try simp only [decide_eq_true_eq, decide_eq_false_iff_not, Bool.not_eq_true', Bool.not_eq_false', Int.not_lt, Int.not_le, Int.toNat_natCast] at hs0
     first
      | (exfalso; clear hK5 K5; clear hK4 K4; clear hK2 K2; clear hK1 K1; clear hK0 K0; first | omega | contradiction)
      | (
       refine RL.st ?_
       refine NV.p T ?_
       refine RL.st ?_
       refine NV.p T ?_
       refine RL.st ?_
       refine NV.p T ?_
       refine RL.st ?_
       refine NV.p T ?_
       refine RL.st ?_
       refine NV.p T ?_
       refine RL.split 25 rfl (fun hs1 => ?_) (fun hs1 => ?_)
       ·try simp only [decide_eq_true_eq, decide_eq_false_iff_not, Bool.not_eq_true', Bool.not_eq_false', Int.not_lt, Int.not_le, Int.toNat_natCast] at hs1
        first
         | (exfalso; clear hK5 K5; clear hK4 K4; clear hK2 K2; clear hK1 K1; clear hK0 K0; first | omega | contradiction)
         | (
          refine RL.guard_no rfl rfl rfl ?_
          refine RL.guard_no rfl rfl rfl ?_
          refine RL.guard_no rfl rfl rfl ?_
          refine RL.st ?_
          refine NV.p T ?_
          refine RL.st ?_
          refine NV.p T ?_
          refine RL.guard_no rfl rfl rfl ?_
          refine RL.guard_no rfl rfl rfl ?_
          refine RL.guard_no rfl rfl rfl ?_
          refine RL.st ?_
          refine NV.p T ?_
          refine RL.nil _ _ _ _ ?_
          refine hK5 _ _ _ ?_
          refine SW.cond_t rfl ?_
          refine SW.seq_k ?_
          intro K7 hK7
          refine SW.region _ _ _ _ ?_
          refine RL.st ?_
          refine NV.p T ?_
          refine RL.nil _ _ _ _ ?_
          refine hK7 _ _ _ ?_
          refine SW.ret ?_
          refine retQ.ret (H' := H) (RVs.tmp (by conv => lhs; whnf) RVs.nil) (fun w hw => Sat.sub (by repeat first | exact List.Sublist.refl _ | apply List.Sublist.cons_cons | apply List.Sublist.cons | exact List.sublist_append_right _ _ | refine List.Sublist.trans ?_ (List.sublist_append_right _ _)) hw) ?_
          clear hK7 K7 hK5 K5 hK4 K4 hK2 K2 hK1 K1 hK0 K0
          first | exact ⟨rfl, rfl⟩ | (refine ⟨boolE ?_, rfl⟩; simp; done) | (refine ⟨boolE ?_, rfl⟩; simp_all; done)
          )
       ·try simp only [decide_eq_true_eq, decide_eq_false_iff_not, Bool.not_eq_true', Bool.not_eq_false', Int.not_lt, Int.not_le, Int.toNat_natCast] at hs1
        first
         | (exfalso; clear hK5 K5; clear hK4 K4; clear hK2 K2; clear hK1 K1; clear hK0 K0; first | omega | contradiction)
         | (
          refine RL.st ?_
          refine NV.p T ?_
          refine RL.st ?_
          refine NV.call rfl rfl rfl fun18 rfl rfl ((check sa n c es (hR _) hn hm).mono (fun v H' h => by rw [hc] at h; exact h)) ?_
          rintro _ _ ⟨rfl, e⟩; obtain rfl := e.symm
          refine RL.st ?_
          refine NV.p T ?_
          refine RL.st ?_
          refine NV.p T ?_
          refine RL.st ?_
          refine NV.p T ?_
          refine RL.split 30 rfl (fun hs2 => ?_) (fun hs2 => ?_)
          ·try simp only [decide_eq_true_eq, decide_eq_false_iff_not, Bool.not_eq_true', Bool.not_eq_false', Int.not_lt, Int.not_le, Int.toNat_natCast] at hs2
           first
            | (exfalso; clear hK5 K5; clear hK4 K4; clear hK2 K2; clear hK1 K1; clear hK0 K0; first | omega | contradiction)
            | (
             refine RL.guard_no rfl rfl rfl ?_
             refine RL.guard_no rfl rfl rfl ?_
             refine RL.guard_no rfl rfl rfl ?_
             refine RL.st ?_
             refine NV.p T ?_
             refine RL.nil _ _ _ _ ?_
             refine hK5 _ _ _ ?_
             refine SW.cond_t rfl ?_
             refine SW.seq_k ?_
             intro K8 hK8
             refine SW.region _ _ _ _ ?_
             refine RL.st ?_
             refine NV.p T ?_
             refine RL.nil _ _ _ _ ?_
             refine hK8 _ _ _ ?_
             refine SW.ret ?_
             refine retQ.ret (H' := H) (RVs.tmp (by conv => lhs; whnf) RVs.nil) (fun w hw => Sat.sub (by repeat first | exact List.Sublist.refl _ | apply List.Sublist.cons_cons | apply List.Sublist.cons | exact List.sublist_append_right _ _ | refine List.Sublist.trans ?_ (List.sublist_append_right _ _)) hw) ?_
             clear hK8 K8 hK5 K5 hK4 K4 hK2 K2 hK1 K1 hK0 K0
             first | exact ⟨rfl, rfl⟩ | (refine ⟨boolE ?_, rfl⟩; simp; done) | (refine ⟨boolE ?_, rfl⟩; simp_all; done)
             )
          ·try simp only [decide_eq_true_eq, decide_eq_false_iff_not, Bool.not_eq_true', Bool.not_eq_false', Int.not_lt, Int.not_le, Int.toNat_natCast] at hs2
           first
            | (exfalso; clear hK5 K5; clear hK4 K4; clear hK2 K2; clear hK1 K1; clear hK0 K0; first | omega | contradiction)
            | (
             refine RL.st ?_
             refine NV.p T ?_
             refine RL.st ?_
             refine NV.call rfl rfl rfl fun18 rfl rfl ((check sar nr cr esr (hRr _) hnr hmr).mono (fun v H' h => by rw [hcr] at h; exact h)) ?_
             rintro _ _ ⟨rfl, e⟩; obtain rfl := e.symm
             refine RL.st ?_
             refine NV.p T ?_
             refine RL.st ?_
             refine NV.p T ?_
             refine RL.nil _ _ _ _ ?_
             refine hK5 _ _ _ ?_
             refine SW.cond rfl (fun hc1 => ?_) (fun hc1 => ?_)
             ·try simp only [decide_eq_true_eq, decide_eq_false_iff_not, Bool.not_eq_true', Bool.not_eq_false', Int.not_lt, Int.not_le, Int.toNat_natCast] at hc1
              first
               | (exfalso; clear hK5 K5; clear hK4 K4; clear hK2 K2; clear hK1 K1; clear hK0 K0; first | omega | contradiction)
               | (
                refine SW.seq_k ?_
                intro K9 hK9
                refine SW.region _ _ _ _ ?_
                refine RL.st ?_
                refine NV.p T ?_
                refine RL.nil _ _ _ _ ?_
                refine hK9 _ _ _ ?_
                refine SW.ret ?_
                refine retQ.ret (H' := H) (RVs.tmp (by conv => lhs; whnf) RVs.nil) (fun w hw => Sat.sub (by repeat first | exact List.Sublist.refl _ | apply List.Sublist.cons_cons | apply List.Sublist.cons | exact List.sublist_append_right _ _ | refine List.Sublist.trans ?_ (List.sublist_append_right _ _)) hw) ?_
                clear hK9 K9 hK5 K5 hK4 K4 hK2 K2 hK1 K1 hK0 K0
                first | exact ⟨rfl, rfl⟩ | (refine ⟨boolE ?_, rfl⟩; simp; done) | (refine ⟨boolE ?_, rfl⟩; simp_all; done)
                )
             ·try simp only [decide_eq_true_eq, decide_eq_false_iff_not, Bool.not_eq_true', Bool.not_eq_false', Int.not_lt, Int.not_le, Int.toNat_natCast] at hc1
              first
               | (exfalso; clear hK5 K5; clear hK4 K4; clear hK2 K2; clear hK1 K1; clear hK0 K0; first | omega | contradiction)
               | (
                refine SW.skip ?_
                refine hK4 _ _ _ ?_
                refine SW.seq_k ?_
                intro K10 hK10
                refine SW.region _ _ _ _ ?_
                refine RL.st ?_
                refine NV.p T ?_
                refine RL.st ?_
                refine NV.call rfl rfl rfl fun11 rfl rfl ((sput sa n c es (hR _) hn hm hb).mono (fun v H' h => by rw [hp] at h; dsimp only at h; exact h)) ?_
                rintro _ _ ⟨s1, k1, rfl, e⟩; obtain rfl := e.symm
                refine RL.st ?_
                refine NV.p T ?_
                refine RL.st ?_
                refine NV.p T ?_
                refine RL.st ?_
                refine NV.p T ?_
                refine RL.st ?_
                refine NV.p T ?_
                refine RL.st ?_
                refine NV.p T ?_
                refine RL.nil _ _ _ _ ?_
                refine hK10 _ _ _ ?_
                refine SW.seq_k ?_
                intro K11 hK11
                refine SW.region _ _ _ _ ?_
                refine RL.st ?_
                refine NV.p T ?_
                refine RL.st ?_
                refine NV.convI T rfl rfl rfl rfl (by show (-9223372036854775808 : Int) ≤ _; omega) (by show _ ≤ (9223372036854775807 : Int); omega) ?_
                refine RL.st ?_
                refine NV.p T ?_
                refine RL.st ?_
                refine NV.p T ?_
                refine RL.st ?_
                first | refine NV.arith rfl rfl rfl rfl (by omega) (by omega) ?_ | refine NV.p T ?_
                refine RL.st ?_
                refine NV.rem rfl rfl rfl (by omega) hk ?_
                refine RL.st ?_
                refine NV.p T ?_
                refine RL.nil _ _ _ _ ?_
                refine hK11 _ _ _ ?_
                refine SW.seq_k ?_
                intro K12 hK12
                refine SW.region _ _ _ _ ?_
                refine RL.st ?_
                refine NV.buildSlice T rfl rfl rfl (Nat.le_of_ble_eq_true rfl) (by exact (rfl : _ = some [])) ?_
                intro b47_0
                refine RL.st ?_
                refine NV.p T ?_
                refine RL.st ?_
                refine NV.sat (fun hs => ?_) (fun c hc => by cases hc)
                refine NV.append T rfl rfl rfl rfl rfl rfl rfl rfl rfl rfl (by repeat first | exact At.head _ _ | apply At.tail | apply At.app) (by first | exact hRr _ | exact Rd.row (by repeat first | exact At.head _ _ | apply At.tail | apply At.app) hs) (ones_map _ _) (by unfold maxLen; omega) (by show (_ + _) * 1 ≤ 140737488355328; omega) ?_
                intro a9 c9
                refine RL.st ?_
                refine NV.p T ?_
                refine RL.st ?_
                refine NV.sat (fun hs => ?_) (fun c hc => by cases hc)
                refine NV.append T rfl rfl rfl rfl rfl rfl rfl rfl rfl rfl (by repeat first | exact At.head _ _ | apply At.tail | apply At.app) (by first | exact hRr _ | exact Rd.row (by repeat first | exact At.head _ _ | apply At.tail | apply At.app) hs) (ones_map _ _) (by unfold maxLen; omega) (by show (_ + _) * 1 ≤ 140737488355328; omega) ?_
                intro a9 c9
                refine RL.st ?_
                refine NV.p T ?_
                refine RL.st ?_
                refine NV.sat (fun hs => ?_) (fun c hc => by cases hc)
                refine NV.call rfl rfl rfl fun20 rfl rfl ((sTake _ _ _ (stuffed es ++ esr) ((Rd.row (by repeat first | exact At.head _ _ | apply At.tail | apply At.app) hs).as (by simp)) (by simp; omega) (by omega) (k : Int)).mono (fun v H' h => by rw [ht] at h; dsimp only at h; exact h)) ?_
                rintro _ _ ⟨_, rfl, a2, n2, c2, rfl, hn2, hR2, G2, e⟩; obtain rfl := e.symm
                refine RL.st ?_
                refine NV.p T ?_
                refine RL.st ?_
                refine NV.p T ?_
                refine RL.st ?_
                refine NV.p T ?_
                refine RL.st ?_
                refine NV.p T ?_
                refine RL.st ?_
                refine NV.p T ?_
                refine RL.st ?_
                refine NV.p T ?_
                refine RL.st ?_
                refine NV.p T ?_
                refine RL.nil _ _ _ _ ?_
                refine hK12 _ _ _ ?_
                refine SW.seq_k ?_
                intro K13 hK13
                refine SW.seq_k ?_
                intro K14 hK14
                refine SW.region _ _ _ _ ?_
                refine RL.st ?_
                refine NV.p T ?_
                refine RL.st ?_
                refine NV.p T ?_
                refine RL.st ?_
                refine NV.p T ?_
                refine RL.split 59 rfl (fun hs3 => ?_) (fun hs3 => ?_)
                ·try simp only [decide_eq_true_eq, decide_eq_false_iff_not, Bool.not_eq_true', Bool.not_eq_false', Int.not_lt, Int.not_le, Int.toNat_natCast] at hs3
                 first
                  | (exfalso; clear hK14 K14; clear hK13 K13; clear hK12 K12; clear hK11 K11; clear hK10 K10; clear hK5 K5; clear hK4 K4; clear hK2 K2; clear hK1 K1; clear hK0 K0; first | omega | contradiction)
                  | (
                   refine RL.guard_no rfl rfl rfl ?_
                   refine RL.guard_no rfl rfl rfl ?_
                   refine RL.st ?_
                   refine NV.p T ?_
                   refine RL.st ?_
                   refine NV.p T ?_
                   refine RL.guard_no rfl rfl rfl ?_
                   refine RL.guard_no rfl rfl rfl ?_
                   refine RL.guard_no rfl rfl rfl ?_
                   refine RL.guard_no rfl rfl rfl ?_
                   refine RL.guard_no rfl rfl rfl ?_
                   refine RL.guard_no rfl rfl rfl ?_
                   refine RL.st ?_
                   refine NV.p T ?_
                   refine RL.nil _ _ _ _ ?_
                   refine hK14 _ _ _ ?_
                   refine SW.cond_t rfl ?_
                   refine SW.seq_k ?_
                   intro K15 hK15
                   refine SW.region _ _ _ _ ?_
                   refine RL.st ?_
                   refine NV.p T ?_
                   refine RL.nil _ _ _ _ ?_
                   refine hK15 _ _ _ ?_
                   refine SW.ret ?_
                   refine retQ.ret (H' := H) (RVs.tmp (by conv => lhs; whnf) RVs.nil) (fun w hw => Sat.sub (by repeat first | exact List.Sublist.refl _ | apply List.Sublist.cons_cons | apply List.Sublist.cons | exact List.sublist_append_right _ _ | refine List.Sublist.trans ?_ (List.sublist_append_right _ _)) hw) ?_
                   clear hK15 K15 hK14 K14 hK13 K13 hK12 K12 hK11 K11 hK10 K10 hK5 K5 hK4 K4 hK2 K2 hK1 K1 hK0 K0
                   first | exact ⟨rfl, rfl⟩ | (refine ⟨boolE ?_, rfl⟩; simp; done) | (refine ⟨boolE ?_, rfl⟩; simp_all; done)
                   )
                ·try simp only [decide_eq_true_eq, decide_eq_false_iff_not, Bool.not_eq_true', Bool.not_eq_false', Int.not_lt, Int.not_le, Int.toNat_natCast] at hs3
                 first
                  | (exfalso; clear hK14 K14; clear hK13 K13; clear hK12 K12; clear hK11 K11; clear hK10 K10; clear hK5 K5; clear hK4 K4; clear hK2 K2; clear hK1 K1; clear hK0 K0; first | omega | contradiction)
                  | (
                   refine RL.st ?_
                   refine NV.p T ?_
                   refine RL.st ?_
                   refine NV.p T ?_
                   refine RL.st ?_
                   refine NV.p T ?_
                   refine RL.st ?_
                   refine NV.p T ?_
                   refine RL.split 63 rfl (fun hs4 => ?_) (fun hs4 => ?_)
                   ·try simp only [decide_eq_true_eq, decide_eq_false_iff_not, Bool.not_eq_true', Bool.not_eq_false', Int.not_lt, Int.not_le, Int.toNat_natCast] at hs4
                    first
                     | (exfalso; clear hK14 K14; clear hK13 K13; clear hK12 K12; clear hK11 K11; clear hK10 K10; clear hK5 K5; clear hK4 K4; clear hK2 K2; clear hK1 K1; clear hK0 K0; first | omega | contradiction)
                     | (
                      refine RL.guard_no rfl rfl rfl ?_
                      refine RL.guard_no rfl rfl rfl ?_
                      refine RL.guard_no rfl rfl rfl ?_
                      refine RL.guard_no rfl rfl rfl ?_
                      refine RL.guard_no rfl rfl rfl ?_
                      refine RL.guard_no rfl rfl rfl ?_
                      refine RL.st ?_
                      refine NV.p T ?_
                      refine RL.nil _ _ _ _ ?_
                      refine hK14 _ _ _ ?_
                      refine SW.cond_t rfl ?_
                      refine SW.seq_k ?_
                      intro K16 hK16
                      refine SW.region _ _ _ _ ?_
                      refine RL.st ?_
                      refine NV.p T ?_
                      refine RL.nil _ _ _ _ ?_
                      refine hK16 _ _ _ ?_
                      refine SW.ret ?_
                      refine retQ.ret (H' := H) (RVs.tmp (by conv => lhs; whnf) RVs.nil) (fun w hw => Sat.sub (by repeat first | exact List.Sublist.refl _ | apply List.Sublist.cons_cons | apply List.Sublist.cons | exact List.sublist_append_right _ _ | refine List.Sublist.trans ?_ (List.sublist_append_right _ _)) hw) ?_
                      clear hK16 K16 hK14 K14 hK13 K13 hK12 K12 hK11 K11 hK10 K10 hK5 K5 hK4 K4 hK2 K2 hK1 K1 hK0 K0
                      first | exact ⟨rfl, rfl⟩ | (refine ⟨boolE ?_, rfl⟩; simp; done) | (refine ⟨boolE ?_, rfl⟩; simp_all; done)
                      )
                   ·try simp only [decide_eq_true_eq, decide_eq_false_iff_not, Bool.not_eq_true', Bool.not_eq_false', Int.not_lt, Int.not_le, Int.toNat_natCast] at hs4
                    first
                     | (exfalso; clear hK14 K14; clear hK13 K13; clear hK12 K12; clear hK11 K11; clear hK10 K10; clear hK5 K5; clear hK4 K4; clear hK2 K2; clear hK1 K1; clear hK0 K0; first | omega | contradiction)
                     | (
                      refine RL.st ?_
                      refine NV.p T ?_
                      refine RL.st ?_
                      refine NV.p T ?_
                      refine RL.st ?_
                      refine NV.p T ?_
                      refine RL.st ?_
                      refine NV.slice (h := k) T rfl rfl rfl rfl rfl ⟨_, rfl⟩ (by omega) (by omega) ?_
                      refine RL.st ?_
                      refine NV.call rfl rfl rfl fun17 rfl rfl ((same _ _ _ _ (k - 0) (c - 0) (es.take k) (es.take k) (by repeat first | exact hR2 | apply Rd.cons | apply Rd.app) (((hR _).sub (l := 0) (h := k) (by omega) (by omega)).as (by simp [List.map_take])) hn2 (by simp; omega) (by rw [hn2]; simp; omega) (by omega)).mono (fun v H' h => by rw [decide_eq_true rfl] at h; exact h)) ?_
                      rintro _ _ ⟨rfl, e⟩; obtain rfl := e.symm
                      refine RL.st ?_
                      refine NV.p T ?_
                      refine RL.st ?_
                      refine NV.p T ?_
                      refine RL.nil _ _ _ _ ?_
                      refine hK14 _ _ _ ?_
                      refine SW.cond rfl (fun hc2 => ?_) (fun hc2 => ?_)
                      ·try simp only [decide_eq_true_eq, decide_eq_false_iff_not, Bool.not_eq_true', Bool.not_eq_false', Int.not_lt, Int.not_le, Int.toNat_natCast] at hc2
                       first
                        | (exfalso; clear hK14 K14; clear hK13 K13; clear hK12 K12; clear hK11 K11; clear hK10 K10; clear hK5 K5; clear hK4 K4; clear hK2 K2; clear hK1 K1; clear hK0 K0; first | omega | contradiction)
                        | (
                         refine SW.seq_k ?_
                         intro K17 hK17
                         refine SW.region _ _ _ _ ?_
                         refine RL.st ?_
                         refine NV.p T ?_
                         refine RL.nil _ _ _ _ ?_
                         refine hK17 _ _ _ ?_
                         refine SW.ret ?_
                         refine retQ.ret (H' := H) (RVs.tmp (by conv => lhs; whnf) RVs.nil) (fun w hw => Sat.sub (by repeat first | exact List.Sublist.refl _ | apply List.Sublist.cons_cons | apply List.Sublist.cons | exact List.sublist_append_right _ _ | refine List.Sublist.trans ?_ (List.sublist_append_right _ _)) hw) ?_
                         clear hK17 K17 hK14 K14 hK13 K13 hK12 K12 hK11 K11 hK10 K10 hK5 K5 hK4 K4 hK2 K2 hK1 K1 hK0 K0
                         first | exact ⟨rfl, rfl⟩ | (refine ⟨boolE ?_, rfl⟩; simp; done) | (refine ⟨boolE ?_, rfl⟩; simp_all; done)
                         )
                      ·try simp only [decide_eq_true_eq, decide_eq_false_iff_not, Bool.not_eq_true', Bool.not_eq_false', Int.not_lt, Int.not_le, Int.toNat_natCast] at hc2
                       first
                        | (exfalso; clear hK14 K14; clear hK13 K13; clear hK12 K12; clear hK11 K11; clear hK10 K10; clear hK5 K5; clear hK4 K4; clear hK2 K2; clear hK1 K1; clear hK0 K0; first | omega | contradiction)
                        | (
                         refine SW.skip ?_
                         refine hK13 _ _ _ ?_
                         refine SW.seq_k ?_
                         intro K18 hK18
                         refine SW.region _ _ _ _ ?_
                         refine RL.st ?_
                         refine NV.p T ?_
                         refine RL.st ?_
                         refine NV.p T ?_
                         refine RL.st ?_
                         refine NV.slice (h := k) T rfl rfl rfl rfl rfl ⟨_, rfl⟩ (by omega) (by omega) ?_
                         refine RL.st ?_
                         refine NV.call rfl rfl rfl fun11 rfl rfl ((sput _ (k - 0) (c - 0) (es.take k) (((hR _).sub (l := 0) (h := k) (by omega) (by omega)).as (by simp [List.map_take])) (by simp; omega) (by omega) (fun z hz => hb z (List.mem_of_mem_take hz))).mono (fun v H' h => by rw [hp2] at h; dsimp only at h; exact h)) ?_
                         rintro _ _ ⟨s4, k4, rfl, e⟩; obtain rfl := e.symm
                         refine RL.st ?_
                         refine NV.p T ?_
                         refine RL.st ?_
                         refine NV.p T ?_
                         refine RL.st ?_
                         refine NV.p T ?_
                         refine RL.st ?_
                         refine NV.p T ?_
                         refine RL.st ?_
                         refine NV.p T ?_
                         refine RL.nil _ _ _ _ ?_
                         refine hK18 _ _ _ ?_
                         refine SW.seq_k ?_
                         intro K19 hK19
                         refine SW.region _ _ _ _ ?_
                         refine RL.st ?_
                         refine NV.p T ?_
                         refine RL.st ?_
                         refine NV.p T ?_
                         refine RL.st ?_
                         refine NV.p T ?_
                         refine RL.split 80 rfl (fun hs5 => ?_) (fun hs5 => ?_)
                         ·try simp only [decide_eq_true_eq, decide_eq_false_iff_not, Bool.not_eq_true', Bool.not_eq_false', Int.not_lt, Int.not_le, Int.toNat_natCast] at hs5
                          first
                           | (exfalso; clear hK19 K19; clear hK18 K18; clear hK14 K14; clear hK13 K13; clear hK12 K12; clear hK11 K11; clear hK10 K10; clear hK5 K5; clear hK4 K4; clear hK2 K2; clear hK1 K1; clear hK0 K0; first | omega | contradiction)
                           | (
                            refine RL.st ?_
                            refine NV.p T ?_
                            refine RL.st ?_
                            refine NV.p T ?_
                            refine RL.st ?_
                            refine NV.p T ?_
                            refine RL.st ?_
                            refine NV.p T ?_
                            refine RL.st ?_
                            refine NV.p T ?_
                            refine RL.st ?_
                            refine NV.p T ?_
                            refine RL.nil _ _ _ _ ?_
                            refine hK19 _ _ _ ?_
                            refine SW.ret ?_
                            refine retQ.ret (H' := H) (RVs.tmp (by conv => lhs; whnf) RVs.nil) (fun w hw => Sat.sub (by repeat first | exact List.Sublist.refl _ | apply List.Sublist.cons_cons | apply List.Sublist.cons | exact List.sublist_append_right _ _ | refine List.Sublist.trans ?_ (List.sublist_append_right _ _)) hw) ?_
                            clear hK19 K19 hK18 K18 hK14 K14 hK13 K13 hK12 K12 hK11 K11 hK10 K10 hK5 K5 hK4 K4 hK2 K2 hK1 K1 hK0 K0
                            first | exact ⟨rfl, rfl⟩ | (refine ⟨boolE ?_, rfl⟩; simp; done) | (refine ⟨boolE ?_, rfl⟩; simp_all; done)
                            )
                         ·try simp only [decide_eq_true_eq, decide_eq_false_iff_not, Bool.not_eq_true', Bool.not_eq_false', Int.not_lt, Int.not_le, Int.toNat_natCast] at hs5
                          first
                           | (exfalso; clear hK19 K19; clear hK18 K18; clear hK14 K14; clear hK13 K13; clear hK12 K12; clear hK11 K11; clear hK10 K10; clear hK5 K5; clear hK4 K4; clear hK2 K2; clear hK1 K1; clear hK0 K0; first | omega | contradiction)
                           | (
                            refine RL.guard_no rfl rfl rfl ?_
                            refine RL.guard_no rfl rfl rfl ?_
                            refine RL.guard_no rfl rfl rfl ?_
                            refine RL.guard_no rfl rfl rfl ?_
                            refine RL.st ?_
                            refine NV.p T ?_
                            refine RL.st ?_
                            refine NV.p T ?_
                            refine RL.nil _ _ _ _ ?_
                            refine hK19 _ _ _ ?_
                            refine SW.ret ?_
                            refine retQ.ret (H' := H) (RVs.tmp (by conv => lhs; whnf) RVs.nil) (fun w hw => Sat.sub (by repeat first | exact List.Sublist.refl _ | apply List.Sublist.cons_cons | apply List.Sublist.cons | exact List.sublist_append_right _ _ | refine List.Sublist.trans ?_ (List.sublist_append_right _ _)) hw) ?_
                            clear hK19 K19 hK18 K18 hK14 K14 hK13 K13 hK12 K12 hK11 K11 hK10 K10 hK5 K5 hK4 K4 hK2 K2 hK1 K1 hK0 K0
                            first | exact ⟨rfl, rfl⟩ | (refine ⟨boolE ?_, rfl⟩; simp; done) | (refine ⟨boolE ?_, rfl⟩; simp_all; done)
                            )
                         )
                      )
                   )
                )
             )
          )
       )
    )
theorem stuffParts {w0 : World} {H : List Chunk} (sa : Option Addr) (n c : Nat) (es : List Int) (hR : ∀ H, Rd w0 H sa n c 1 (es.map (.int .u8))) (hn : n = es.length) (hm : n ≤ 140737488351232) (hb : Byte es) (sar : Option Addr) (nr cr : Nat) (esr : List Int) (hRr : ∀ H, Rd w0 H sar nr cr 1 (esr.map (.int .u8))) (hnr : nr = esr.length) (hmr : nr ≤ 140737488351232) (hbr : Byte esr) (w : Int) (w0' : 0 ≤ w) (w1 : w ≤ 65535) : SC Try.prog w0 7 #[.slice sa n c, .slice sar nr cr, .int .u16 w] H (fun v H' => v = .bool true ∧ H' = H) := by
  by_cases h : 2000 < n ∨ 2000 < nr ∨ chk es ≠ 0 ∨ chk esr ≠ 0
  · exact parts_no sa n c es hR hn hm hb sar nr cr esr hRr hnr hmr hbr w h
  · have hc : chk es = 0 := by omega
    have hcr : chk esr = 0 := by omega
    have hbit := bit_of hb (chk_zero.1 hc).2
    have hbitr := bit_of hbr (chk_zero.1 hcr).2
    have t1 : 0 ≤ w.tmod ((n : Int) + 1) := Int.tmod_nonneg _ w0'
    have t2 := Int.tmod_lt_of_pos w (show (0 : Int) < (n : Int) + 1 by omega)
    have hkn : (w.tmod ((n : Int) + 1)).toNat ≤ n := by omega
    obtain ⟨g1, g2, g3, g4, g5⟩ := put_fit hb hc (by omega)
    have hct : chk (es.take (w.tmod ((n : Int) + 1)).toNat) = 0 := chk_zero.2 ⟨by rw [List.length_take]; omega, hbit.take.good⟩
    obtain ⟨q1, _⟩ := put_fit hbit.take.byte hct (by rw [List.length_take]; omega)
    exact parts_ok sa n c es hR hn hm hb sar nr cr esr hRr hnr hmr hbr w w0' w1 (by omega) (by omega) hc hcr _ (Int.toNat_of_nonneg t1).symm hkn (hR H).cap g4 g1 q1 (parts_law hbit hbitr (by omega) (by omega) (by omega))
end Go.Proofs.Ytilffbgepliamaa.M
