import Derived.Test.YtdcahmifalabnaaProg
import Derived.Test.YtdcahmifalabnaaFE4
import Derived.Test.YtdcahmifalabnaaP4d
set_option linter.unusedVariables false
set_option linter.unusedSimpArgs false
namespace Go.Proofs.Ytdcahmifalabnaa.M
open Go Go.Sep Go.Proofs
set_option maxRecDepth 10000
set_option maxHeartbeats 2000000
theorem parts_no {w0 : World} {H : List Chunk} (prev ev : Int) (ah : Bool) (p0 : 0 ≤ prev) (sa : Option Addr) (n c : Nat) (es : List Int) (hR : ∀ H, Rd w0 H sa n c 1 (es.map (.int .u8))) (hn : n = es.length) (hm : n ≤ 140737488351232) (hb : Byte es) (p : Int) (h : 2000 < n ∨ 1 < prev ∨ chk es ≠ 0 ∨ ev < 1 ∨ 64 < ev) : SC Try.prog w0 3 #[.agg #[.int .u8 prev, .slice sa n c, .int .i64 ev, .bool ah], .int .u8 p] H (fun v H' => v = .bool true ∧ H' = H) := by
 refine SC.enter Try.func3 rfl (Nat.le_of_ble_eq_true rfl) ?_
 refine SW.seq_k ?_
 intro K0 hK0
 refine SW.region _ _ _ _ ?_
 refine RL.st ?_
 refine NV.box rfl (by exact (rfl : _ = [_, _, _, _])) ?_
 intro b2_0
 refine RL.st ?_
 refine NV.p T ?_
 refine RL.nil _ _ _ _ ?_
 refine hK0 _ _ _ ?_
 refine SW.seq_k ?_
 intro K1 hK1
 refine SW.seq_k ?_
 intro K2 hK2
 refine SW.region _ _ _ _ ?_
 refine RL.st ?_
 refine NV.call rfl rfl rfl fun9 rfl rfl (alive) ?_
 rintro _ _ ⟨rfl, e⟩; obtain rfl := e.symm
 refine RL.st ?_
 refine NV.p T ?_
 refine RL.nil _ _ _ _ ?_
 refine hK2 _ _ _ ?_
 refine SW.cond rfl (fun hc0 => ?_) (fun hc0 => ?_)
 ·try simp only [decide_eq_true_eq, decide_eq_false_iff_not, Bool.not_eq_true', Bool.not_eq_false', Int.not_lt, Int.not_le, Int.toNat_natCast] at hc0
  first
   | (exfalso; clear hK2 K2; clear hK1 K1; clear hK0 K0; first | omega | contradiction)
   | (
    refine SW.seq_k ?_
    intro K3 hK3
    refine SW.region _ _ _ _ ?_
    refine RL.st ?_
    refine NV.p T ?_
    refine RL.nil _ _ _ _ ?_
    refine hK3 _ _ _ ?_
    refine SW.ret ?_
    refine retQ.ret (H' := H) (RVs.tmp (by conv => lhs; whnf) RVs.nil) (fun w hw => Sat.sub (by repeat first | exact List.Sublist.refl _ | apply List.Sublist.cons_cons | apply List.Sublist.cons | exact List.sublist_append_right _ _ | refine List.Sublist.trans ?_ (List.sublist_append_right _ _)) hw) ?_
    clear hK3 K3 hK2 K2 hK1 K1 hK0 K0
    first | exact ⟨rfl, rfl⟩ | (refine ⟨boolE ?_, rfl⟩; simp; done) | (refine ⟨boolE ?_, rfl⟩; simp_all; done)
    )
 ·try simp only [decide_eq_true_eq, decide_eq_false_iff_not, Bool.not_eq_true', Bool.not_eq_false', Int.not_lt, Int.not_le, Int.toNat_natCast] at hc0
  first
   | (exfalso; clear hK2 K2; clear hK1 K1; clear hK0 K0; first | omega | contradiction)
   | (
    refine SW.skip ?_
    refine hK1 _ _ _ ?_
    refine SW.seq_k ?_
    intro K4 hK4
    refine SW.seq_k ?_
    intro K5 hK5
    refine SW.region _ _ _ _ ?_
    refine RL.st ?_
    refine NV.p T ?_
    refine RL.st ?_
    refine NV.lv1 T ?_
    refine RL.st ?_
    refine NV.p T ?_
    refine RL.st ?_
    refine NV.p T ?_
    refine RL.st ?_
    refine NV.p T ?_
    refine RL.split 19 rfl (fun hs0 => ?_) (fun hs0 => ?_)
    ·try simp only [decide_eq_true_eq, decide_eq_false_iff_not, Bool.not_eq_true', Bool.not_eq_false', Int.not_lt, Int.not_le, Int.toNat_natCast] at hs0
     first
      | (exfalso; clear hK5 K5; clear hK4 K4; clear hK2 K2; clear hK1 K1; clear hK0 K0; first | omega | contradiction)
      | (
       refine RL.guard_no rfl rfl rfl ?_
       refine RL.guard_no rfl rfl rfl ?_
       refine RL.guard_no rfl rfl rfl ?_
       refine RL.st ?_
       refine NV.p T ?_
       refine RL.st ?_
       refine NV.p T ?_
       refine RL.guard_no rfl rfl rfl ?_
       refine RL.guard_no rfl rfl rfl ?_
       refine RL.guard_no rfl rfl rfl ?_
       refine RL.guard_no rfl rfl rfl ?_
       refine RL.st ?_
       refine NV.p T ?_
       refine RL.st ?_
       refine NV.p T ?_
       refine RL.guard_no rfl rfl rfl ?_
       refine RL.guard_no rfl rfl rfl ?_
       refine RL.guard_no rfl rfl rfl ?_
       refine RL.guard_no rfl rfl rfl ?_
       refine RL.st ?_
       refine NV.p T ?_
       refine RL.st ?_
       refine NV.p T ?_
       refine RL.guard_no rfl rfl rfl ?_
       refine RL.guard_no rfl rfl rfl ?_
       refine RL.guard_no rfl rfl rfl ?_
       refine RL.guard_no rfl rfl rfl ?_
       refine RL.st ?_
       refine NV.p T ?_
       refine RL.nil _ _ _ _ ?_
       refine hK5 _ _ _ ?_
       refine SW.cond_t rfl ?_
       refine SW.seq_k ?_
       intro K6 hK6
       refine SW.region _ _ _ _ ?_
       refine RL.st ?_
       refine NV.p T ?_
       refine RL.nil _ _ _ _ ?_
       refine hK6 _ _ _ ?_
       refine SW.ret ?_
       refine retQ.ret (H' := H) (RVs.tmp (by conv => lhs; whnf) RVs.nil) (fun w hw => Sat.sub (by repeat first | exact List.Sublist.refl _ | apply List.Sublist.cons_cons | apply List.Sublist.cons | exact List.sublist_append_right _ _ | refine List.Sublist.trans ?_ (List.sublist_append_right _ _)) hw) ?_
       clear hK6 K6 hK5 K5 hK4 K4 hK2 K2 hK1 K1 hK0 K0
       first | exact ⟨rfl, rfl⟩ | (refine ⟨boolE ?_, rfl⟩; simp; done) | (refine ⟨boolE ?_, rfl⟩; simp_all; done)
       )
    ·try simp only [decide_eq_true_eq, decide_eq_false_iff_not, Bool.not_eq_true', Bool.not_eq_false', Int.not_lt, Int.not_le, Int.toNat_natCast] at hs0
     first
      | (exfalso; clear hK5 K5; clear hK4 K4; clear hK2 K2; clear hK1 K1; clear hK0 K0; first | omega | contradiction)
      | (
       refine RL.st ?_
       refine NV.p T ?_
       refine RL.st ?_
       refine NV.lv1 T ?_
       refine RL.st ?_
       refine NV.p T ?_
       refine RL.st ?_
       refine NV.p T ?_
       refine RL.st ?_
       refine NV.p T ?_
       refine RL.split 24 rfl (fun hs1 => ?_) (fun hs1 => ?_)
       ·try simp only [decide_eq_true_eq, decide_eq_false_iff_not, Bool.not_eq_true', Bool.not_eq_false', Int.not_lt, Int.not_le, Int.toNat_natCast] at hs1
        first
         | (exfalso; clear hK5 K5; clear hK4 K4; clear hK2 K2; clear hK1 K1; clear hK0 K0; first | omega | contradiction)
         | (
          refine RL.guard_no rfl rfl rfl ?_
          refine RL.guard_no rfl rfl rfl ?_
          refine RL.guard_no rfl rfl rfl ?_
          refine RL.guard_no rfl rfl rfl ?_
          refine RL.st ?_
          refine NV.p T ?_
          refine RL.st ?_
          refine NV.p T ?_
          refine RL.guard_no rfl rfl rfl ?_
          refine RL.guard_no rfl rfl rfl ?_
          refine RL.guard_no rfl rfl rfl ?_
          refine RL.guard_no rfl rfl rfl ?_
          refine RL.st ?_
          refine NV.p T ?_
          refine RL.st ?_
          refine NV.p T ?_
          refine RL.guard_no rfl rfl rfl ?_
          refine RL.guard_no rfl rfl rfl ?_
          refine RL.guard_no rfl rfl rfl ?_
          refine RL.guard_no rfl rfl rfl ?_
          refine RL.st ?_
          refine NV.p T ?_
          refine RL.nil _ _ _ _ ?_
          refine hK5 _ _ _ ?_
          refine SW.cond_t rfl ?_
          refine SW.seq_k ?_
          intro K7 hK7
          refine SW.region _ _ _ _ ?_
          refine RL.st ?_
          refine NV.p T ?_
          refine RL.nil _ _ _ _ ?_
          refine hK7 _ _ _ ?_
          refine SW.ret ?_
          refine retQ.ret (H' := H) (RVs.tmp (by conv => lhs; whnf) RVs.nil) (fun w hw => Sat.sub (by repeat first | exact List.Sublist.refl _ | apply List.Sublist.cons_cons | apply List.Sublist.cons | exact List.sublist_append_right _ _ | refine List.Sublist.trans ?_ (List.sublist_append_right _ _)) hw) ?_
          clear hK7 K7 hK5 K5 hK4 K4 hK2 K2 hK1 K1 hK0 K0
          first | exact ⟨rfl, rfl⟩ | (refine ⟨boolE ?_, rfl⟩; simp; done) | (refine ⟨boolE ?_, rfl⟩; simp_all; done)
          )
       ·try simp only [decide_eq_true_eq, decide_eq_false_iff_not, Bool.not_eq_true', Bool.not_eq_false', Int.not_lt, Int.not_le, Int.toNat_natCast] at hs1
        first
         | (exfalso; clear hK5 K5; clear hK4 K4; clear hK2 K2; clear hK1 K1; clear hK0 K0; first | omega | contradiction)
         | (
          refine RL.st ?_
          refine NV.p T ?_
          refine RL.st ?_
          refine NV.lv1 T ?_
          refine RL.st ?_
          refine NV.call rfl rfl rfl fun10 rfl rfl (check sa n c es (hR _) hn hm) ?_
          rintro _ _ ⟨rfl, e⟩; obtain rfl := e.symm
          refine RL.st ?_
          refine NV.p T ?_
          refine RL.st ?_
          refine NV.p T ?_
          refine RL.st ?_
          refine NV.p T ?_
          refine RL.split 30 rfl (fun hs2 => ?_) (fun hs2 => ?_)
          ·try simp only [decide_eq_true_eq, decide_eq_false_iff_not, Bool.not_eq_true', Bool.not_eq_false', Int.not_lt, Int.not_le, Int.toNat_natCast] at hs2
           first
            | (exfalso; clear hK5 K5; clear hK4 K4; clear hK2 K2; clear hK1 K1; clear hK0 K0; first | omega | contradiction)
            | (
             refine RL.guard_no rfl rfl rfl ?_
             refine RL.guard_no rfl rfl rfl ?_
             refine RL.guard_no rfl rfl rfl ?_
             refine RL.guard_no rfl rfl rfl ?_
             refine RL.st ?_
             refine NV.p T ?_
             refine RL.st ?_
             refine NV.p T ?_
             refine RL.guard_no rfl rfl rfl ?_
             refine RL.guard_no rfl rfl rfl ?_
             refine RL.guard_no rfl rfl rfl ?_
             refine RL.guard_no rfl rfl rfl ?_
             refine RL.st ?_
             refine NV.p T ?_
             refine RL.nil _ _ _ _ ?_
             refine hK5 _ _ _ ?_
             refine SW.cond_t rfl ?_
             refine SW.seq_k ?_
             intro K8 hK8
             refine SW.region _ _ _ _ ?_
             refine RL.st ?_
             refine NV.p T ?_
             refine RL.nil _ _ _ _ ?_
             refine hK8 _ _ _ ?_
             refine SW.ret ?_
             refine retQ.ret (H' := H) (RVs.tmp (by conv => lhs; whnf) RVs.nil) (fun w hw => Sat.sub (by repeat first | exact List.Sublist.refl _ | apply List.Sublist.cons_cons | apply List.Sublist.cons | exact List.sublist_append_right _ _ | refine List.Sublist.trans ?_ (List.sublist_append_right _ _)) hw) ?_
             clear hK8 K8 hK5 K5 hK4 K4 hK2 K2 hK1 K1 hK0 K0
             first | exact ⟨rfl, rfl⟩ | (refine ⟨boolE ?_, rfl⟩; simp; done) | (refine ⟨boolE ?_, rfl⟩; simp_all; done)
             )
          ·try simp only [decide_eq_true_eq, decide_eq_false_iff_not, Bool.not_eq_true', Bool.not_eq_false', Int.not_lt, Int.not_le, Int.toNat_natCast] at hs2
           first
            | (exfalso; clear hK5 K5; clear hK4 K4; clear hK2 K2; clear hK1 K1; clear hK0 K0; first | omega | contradiction)
            | (
             refine RL.st ?_
             refine NV.p T ?_
             refine RL.st ?_
             refine NV.p T ?_
             refine RL.st ?_
             refine NV.lv1 T ?_
             refine RL.st ?_
             refine NV.p T ?_
             refine RL.st ?_
             refine NV.p T ?_
             refine RL.st ?_
             refine NV.p T ?_
             refine RL.split 36 rfl (fun hs3 => ?_) (fun hs3 => ?_)
             ·try simp only [decide_eq_true_eq, decide_eq_false_iff_not, Bool.not_eq_true', Bool.not_eq_false', Int.not_lt, Int.not_le, Int.toNat_natCast] at hs3
              first
               | (exfalso; clear hK5 K5; clear hK4 K4; clear hK2 K2; clear hK1 K1; clear hK0 K0; first | omega | contradiction)
               | (
                refine RL.guard_no rfl rfl rfl ?_
                refine RL.guard_no rfl rfl rfl ?_
                refine RL.guard_no rfl rfl rfl ?_
                refine RL.guard_no rfl rfl rfl ?_
                refine RL.st ?_
                refine NV.p T ?_
                refine RL.nil _ _ _ _ ?_
                refine hK5 _ _ _ ?_
                refine SW.cond_t rfl ?_
                refine SW.seq_k ?_
                intro K9 hK9
                refine SW.region _ _ _ _ ?_
                refine RL.st ?_
                refine NV.p T ?_
                refine RL.nil _ _ _ _ ?_
                refine hK9 _ _ _ ?_
                refine SW.ret ?_
                refine retQ.ret (H' := H) (RVs.tmp (by conv => lhs; whnf) RVs.nil) (fun w hw => Sat.sub (by repeat first | exact List.Sublist.refl _ | apply List.Sublist.cons_cons | apply List.Sublist.cons | exact List.sublist_append_right _ _ | refine List.Sublist.trans ?_ (List.sublist_append_right _ _)) hw) ?_
                clear hK9 K9 hK5 K5 hK4 K4 hK2 K2 hK1 K1 hK0 K0
                first | exact ⟨rfl, rfl⟩ | (refine ⟨boolE ?_, rfl⟩; simp; done) | (refine ⟨boolE ?_, rfl⟩; simp_all; done)
                )
             ·try simp only [decide_eq_true_eq, decide_eq_false_iff_not, Bool.not_eq_true', Bool.not_eq_false', Int.not_lt, Int.not_le, Int.toNat_natCast] at hs3
              first
               | (exfalso; clear hK5 K5; clear hK4 K4; clear hK2 K2; clear hK1 K1; clear hK0 K0; first | omega | contradiction)
               | (
                refine RL.st ?_
                refine NV.p T ?_
                refine RL.st ?_
                refine NV.p T ?_
                refine RL.st ?_
                refine NV.lv1 T ?_
                refine RL.st ?_
                refine NV.p T ?_
                refine RL.st ?_
                refine NV.p T ?_
                refine RL.nil _ _ _ _ ?_
                refine hK5 _ _ _ ?_
                refine SW.cond rfl (fun hc1 => ?_) (fun hc1 => ?_)
                ·try simp only [decide_eq_true_eq, decide_eq_false_iff_not, Bool.not_eq_true', Bool.not_eq_false', Int.not_lt, Int.not_le, Int.toNat_natCast] at hc1
                 first
                  | (exfalso; clear hK5 K5; clear hK4 K4; clear hK2 K2; clear hK1 K1; clear hK0 K0; first | omega | contradiction)
                  | (
                   refine SW.seq_k ?_
                   intro K10 hK10
                   refine SW.region _ _ _ _ ?_
                   refine RL.st ?_
                   refine NV.p T ?_
                   refine RL.nil _ _ _ _ ?_
                   refine hK10 _ _ _ ?_
                   refine SW.ret ?_
                   refine retQ.ret (H' := H) (RVs.tmp (by conv => lhs; whnf) RVs.nil) (fun w hw => Sat.sub (by repeat first | exact List.Sublist.refl _ | apply List.Sublist.cons_cons | apply List.Sublist.cons | exact List.sublist_append_right _ _ | refine List.Sublist.trans ?_ (List.sublist_append_right _ _)) hw) ?_
                   clear hK10 K10 hK5 K5 hK4 K4 hK2 K2 hK1 K1 hK0 K0
                   first | exact ⟨rfl, rfl⟩ | (refine ⟨boolE ?_, rfl⟩; simp; done) | (refine ⟨boolE ?_, rfl⟩; simp_all; done)
                   )
                ·try simp only [decide_eq_true_eq, decide_eq_false_iff_not, Bool.not_eq_true', Bool.not_eq_false', Int.not_lt, Int.not_le, Int.toNat_natCast] at hc1
                 exfalso; clear hK5 K5; clear hK4 K4; clear hK2 K2; clear hK1 K1; clear hK0 K0; first | omega | contradiction
                )
             )
          )
       )
    )
theorem parts_ok {w0 : World} {H : List Chunk} (prev ev : Int) (ah : Bool) (p0 : 0 ≤ prev) (sa : Option Addr) (n c : Nat) (es : List Int) (hR : ∀ H, Rd w0 H sa n c 1 (es.map (.int .u8))) (hn : n = es.length) (hm : n ≤ 140737488351232) (hb : Byte es) (p : Int) (q0 : 0 ≤ p) (q1 : p ≤ 255) (hl : n ≤ 2000) (p1 : prev ≤ 1) (hc : chk es = 0) (e1 : 1 ≤ ev) (e2 : ev ≤ 64) (hbit : Bit es) (k : Nat) (pe0 : 0 ≤ p * ev) (pe1 : p * ev ≤ 16320) (x : Int) (hx : IntKind.i64.wrap ((n : Int).tdiv ev) = x) (xe0 : 0 ≤ x * ev) (xe1 : x * ev ≤ 2000) (hk : min (p * ev) (x * ev) = (k : Int)) (hkn : k ≤ n) (hnc : n ≤ c) (W A : List Int) (hW : putV prev es ev ah = (W, 0)) (hA : putV prev (es.take k) ev ah = (A, 0)) (lA : A.length ≤ 4000) (lW : W.length ≤ 4000) (hB : 0 < k → A ≠ [] ∧ 0 ≤ A.getD (A.length - 1) 0 ∧ A.getD (A.length - 1) 0 ≤ 1 ∧ ∃ B, putV (A.getD (A.length - 1) 0) (es.drop k) ev true = (B, 0) ∧ B.length ≤ 4000 ∧ W = A ++ B) : SC Try.prog w0 3 #[.agg #[.int .u8 prev, .slice sa n c, .int .i64 ev, .bool ah], .int .u8 p] H (fun v H' => v = .bool true ∧ H' = H) := by
 refine SC.enter Try.func3 rfl (Nat.le_of_ble_eq_true rfl) ?_
 refine SW.seq_k ?_
 intro K0 hK0
 refine SW.region _ _ _ _ ?_
 refine RL.st ?_
 refine NV.box rfl (by exact (rfl : _ = [_, _, _, _])) ?_
 intro b2_0
 refine RL.st ?_
 refine NV.p T ?_
 refine RL.nil _ _ _ _ ?_
 refine hK0 _ _ _ ?_
 refine SW.seq_k ?_
 intro K1 hK1
 refine SW.seq_k ?_
 intro K2 hK2
 refine SW.region _ _ _ _ ?_
 refine RL.st ?_
 refine NV.call rfl rfl rfl fun9 rfl rfl (alive) ?_
 rintro _ _ ⟨rfl, e⟩; obtain rfl := e.symm
 refine RL.st ?_
 refine NV.p T ?_
 refine RL.nil _ _ _ _ ?_
 refine hK2 _ _ _ ?_
 refine SW.cond rfl (fun hc0 => ?_) (fun hc0 => ?_)
 ·try simp only [decide_eq_true_eq, decide_eq_false_iff_not, Bool.not_eq_true', Bool.not_eq_false', Int.not_lt, Int.not_le, Int.toNat_natCast] at hc0
  first
   | (exfalso; clear hK2 K2; clear hK1 K1; clear hK0 K0; first | omega | contradiction)
   | (
    refine SW.seq_k ?_
    intro K3 hK3
    refine SW.region _ _ _ _ ?_
    refine RL.st ?_
    refine NV.p T ?_
    refine RL.nil _ _ _ _ ?_
    refine hK3 _ _ _ ?_
    refine SW.ret ?_
    refine retQ.ret (H' := H) (RVs.tmp (by conv => lhs; whnf) RVs.nil) (fun w hw => Sat.sub (by repeat first | exact List.Sublist.refl _ | apply List.Sublist.cons_cons | apply List.Sublist.cons | exact List.sublist_append_right _ _ | refine List.Sublist.trans ?_ (List.sublist_append_right _ _)) hw) ?_
    clear hK3 K3 hK2 K2 hK1 K1 hK0 K0
    first | exact ⟨rfl, rfl⟩ | (refine ⟨boolE ?_, rfl⟩; simp; done) | (refine ⟨boolE ?_, rfl⟩; simp_all; done)
    )
 ·try simp only [decide_eq_true_eq, decide_eq_false_iff_not, Bool.not_eq_true', Bool.not_eq_false', Int.not_lt, Int.not_le, Int.toNat_natCast] at hc0
  first
   | (exfalso; clear hK2 K2; clear hK1 K1; clear hK0 K0; first | omega | contradiction)
   | (
    refine SW.skip ?_
    refine hK1 _ _ _ ?_
    refine SW.seq_k ?_
    intro K4 hK4
    refine SW.seq_k ?_
    intro K5 hK5
    refine SW.region _ _ _ _ ?_
    refine RL.st ?_
    refine NV.p T ?_
    refine RL.st ?_
    refine NV.lv1 T ?_
    refine RL.st ?_
    refine NV.p T ?_
    refine RL.st ?_
    refine NV.p T ?_
    refine RL.st ?_
    refine NV.p T ?_
    refine RL.split 19 rfl (fun hs0 => ?_) (fun hs0 => ?_)
    ·try simp only [decide_eq_true_eq, decide_eq_false_iff_not, Bool.not_eq_true', Bool.not_eq_false', Int.not_lt, Int.not_le, Int.toNat_natCast] at hs0
     first
      | (exfalso; clear hK5 K5; clear hK4 K4; clear hK2 K2; clear hK1 K1; clear hK0 K0; first | omega | contradiction)
      | (
       refine RL.guard_no rfl rfl rfl ?_
       refine RL.guard_no rfl rfl rfl ?_
       refine RL.guard_no rfl rfl rfl ?_
       refine RL.st ?_
       refine NV.p T ?_
       refine RL.st ?_
       refine NV.p T ?_
       refine RL.guard_no rfl rfl rfl ?_
       refine RL.guard_no rfl rfl rfl ?_
       refine RL.guard_no rfl rfl rfl ?_
       refine RL.guard_no rfl rfl rfl ?_
       refine RL.st ?_
       refine NV.p T ?_
       refine RL.st ?_
       refine NV.p T ?_
       refine RL.guard_no rfl rfl rfl ?_
       refine RL.guard_no rfl rfl rfl ?_
       refine RL.guard_no rfl rfl rfl ?_
       refine RL.guard_no rfl rfl rfl ?_
       refine RL.st ?_
       refine NV.p T ?_
       refine RL.st ?_
       refine NV.p T ?_
       refine RL.guard_no rfl rfl rfl ?_
       refine RL.guard_no rfl rfl rfl ?_
       refine RL.guard_no rfl rfl rfl ?_
       refine RL.guard_no rfl rfl rfl ?_
       refine RL.st ?_
       refine NV.p T ?_
       refine RL.nil _ _ _ _ ?_
       refine hK5 _ _ _ ?_
       refine SW.cond_t rfl ?_
       refine SW.seq_k ?_
       intro K6 hK6
       refine SW.region _ _ _ _ ?_
       refine RL.st ?_
       refine NV.p T ?_
       refine RL.nil _ _ _ _ ?_
       refine hK6 _ _ _ ?_
       refine SW.ret ?_
       refine retQ.ret (H' := H) (RVs.tmp (by conv => lhs; whnf) RVs.nil) (fun w hw => Sat.sub (by repeat first | exact List.Sublist.refl _ | apply List.Sublist.cons_cons | apply List.Sublist.cons | exact List.sublist_append_right _ _ | refine List.Sublist.trans ?_ (List.sublist_append_right _ _)) hw) ?_
       clear hK6 K6 hK5 K5 hK4 K4 hK2 K2 hK1 K1 hK0 K0
       first | exact ⟨rfl, rfl⟩ | (refine ⟨boolE ?_, rfl⟩; simp; done) | (refine ⟨boolE ?_, rfl⟩; simp_all; done)
       )
    ·try simp only [decide_eq_true_eq, decide_eq_false_iff_not, Bool.not_eq_true', Bool.not_eq_false', Int.not_lt, Int.not_le, Int.toNat_natCast] at hs0
     first
      | (exfalso; clear hK5 K5; clear hK4 K4; clear hK2 K2; clear hK1 K1; clear hK0 K0; first | omega | contradiction)
      | (
       refine RL.st ?_
       refine NV.p T ?_
       refine RL.st ?_
       refine NV.lv1 T ?_
       refine RL.st ?_
       refine NV.p T ?_
       refine RL.st ?_
       refine NV.p T ?_
       refine RL.st ?_
       refine NV.p T ?_
       refine RL.split 24 rfl (fun hs1 => ?_) (fun hs1 => ?_)
       ·try simp only [decide_eq_true_eq, decide_eq_false_iff_not, Bool.not_eq_true', Bool.not_eq_false', Int.not_lt, Int.not_le, Int.toNat_natCast] at hs1
        first
         | (exfalso; clear hK5 K5; clear hK4 K4; clear hK2 K2; clear hK1 K1; clear hK0 K0; first | omega | contradiction)
         | (
          refine RL.guard_no rfl rfl rfl ?_
          refine RL.guard_no rfl rfl rfl ?_
          refine RL.guard_no rfl rfl rfl ?_
          refine RL.guard_no rfl rfl rfl ?_
          refine RL.st ?_
          refine NV.p T ?_
          refine RL.st ?_
          refine NV.p T ?_
          refine RL.guard_no rfl rfl rfl ?_
          refine RL.guard_no rfl rfl rfl ?_
          refine RL.guard_no rfl rfl rfl ?_
          refine RL.guard_no rfl rfl rfl ?_
          refine RL.st ?_
          refine NV.p T ?_
          refine RL.st ?_
          refine NV.p T ?_
          refine RL.guard_no rfl rfl rfl ?_
          refine RL.guard_no rfl rfl rfl ?_
          refine RL.guard_no rfl rfl rfl ?_
          refine RL.guard_no rfl rfl rfl ?_
          refine RL.st ?_
          refine NV.p T ?_
          refine RL.nil _ _ _ _ ?_
          refine hK5 _ _ _ ?_
          refine SW.cond_t rfl ?_
          refine SW.seq_k ?_
          intro K7 hK7
          refine SW.region _ _ _ _ ?_
          refine RL.st ?_
          refine NV.p T ?_
          refine RL.nil _ _ _ _ ?_
          refine hK7 _ _ _ ?_
          refine SW.ret ?_
          refine retQ.ret (H' := H) (RVs.tmp (by conv => lhs; whnf) RVs.nil) (fun w hw => Sat.sub (by repeat first | exact List.Sublist.refl _ | apply List.Sublist.cons_cons | apply List.Sublist.cons | exact List.sublist_append_right _ _ | refine List.Sublist.trans ?_ (List.sublist_append_right _ _)) hw) ?_
          clear hK7 K7 hK5 K5 hK4 K4 hK2 K2 hK1 K1 hK0 K0
          first | exact ⟨rfl, rfl⟩ | (refine ⟨boolE ?_, rfl⟩; simp; done) | (refine ⟨boolE ?_, rfl⟩; simp_all; done)
          )
       ·try simp only [decide_eq_true_eq, decide_eq_false_iff_not, Bool.not_eq_true', Bool.not_eq_false', Int.not_lt, Int.not_le, Int.toNat_natCast] at hs1
        first
         | (exfalso; clear hK5 K5; clear hK4 K4; clear hK2 K2; clear hK1 K1; clear hK0 K0; first | omega | contradiction)
         | (
          refine RL.st ?_
          refine NV.p T ?_
          refine RL.st ?_
          refine NV.lv1 T ?_
          refine RL.st ?_
          refine NV.call rfl rfl rfl fun10 rfl rfl ((check sa n c es (hR _) hn hm).mono (fun v H' h => by rw [hc] at h; exact h)) ?_
          rintro _ _ ⟨rfl, e⟩; obtain rfl := e.symm
          refine RL.st ?_
          refine NV.p T ?_
          refine RL.st ?_
          refine NV.p T ?_
          refine RL.st ?_
          refine NV.p T ?_
          refine RL.split 30 rfl (fun hs2 => ?_) (fun hs2 => ?_)
          ·try simp only [decide_eq_true_eq, decide_eq_false_iff_not, Bool.not_eq_true', Bool.not_eq_false', Int.not_lt, Int.not_le, Int.toNat_natCast] at hs2
           first
            | (exfalso; clear hK5 K5; clear hK4 K4; clear hK2 K2; clear hK1 K1; clear hK0 K0; first | omega | contradiction)
            | (
             refine RL.guard_no rfl rfl rfl ?_
             refine RL.guard_no rfl rfl rfl ?_
             refine RL.guard_no rfl rfl rfl ?_
             refine RL.guard_no rfl rfl rfl ?_
             refine RL.st ?_
             refine NV.p T ?_
             refine RL.st ?_
             refine NV.p T ?_
             refine RL.guard_no rfl rfl rfl ?_
             refine RL.guard_no rfl rfl rfl ?_
             refine RL.guard_no rfl rfl rfl ?_
             refine RL.guard_no rfl rfl rfl ?_
             refine RL.st ?_
             refine NV.p T ?_
             refine RL.nil _ _ _ _ ?_
             refine hK5 _ _ _ ?_
             refine SW.cond_t rfl ?_
             refine SW.seq_k ?_
             intro K8 hK8
             refine SW.region _ _ _ _ ?_
             refine RL.st ?_
             refine NV.p T ?_
             refine RL.nil _ _ _ _ ?_
             refine hK8 _ _ _ ?_
             refine SW.ret ?_
             refine retQ.ret (H' := H) (RVs.tmp (by conv => lhs; whnf) RVs.nil) (fun w hw => Sat.sub (by repeat first | exact List.Sublist.refl _ | apply List.Sublist.cons_cons | apply List.Sublist.cons | exact List.sublist_append_right _ _ | refine List.Sublist.trans ?_ (List.sublist_append_right _ _)) hw) ?_
             clear hK8 K8 hK5 K5 hK4 K4 hK2 K2 hK1 K1 hK0 K0
             first | exact ⟨rfl, rfl⟩ | (refine ⟨boolE ?_, rfl⟩; simp; done) | (refine ⟨boolE ?_, rfl⟩; simp_all; done)
             )
          ·try simp only [decide_eq_true_eq, decide_eq_false_iff_not, Bool.not_eq_true', Bool.not_eq_false', Int.not_lt, Int.not_le, Int.toNat_natCast] at hs2
           first
            | (exfalso; clear hK5 K5; clear hK4 K4; clear hK2 K2; clear hK1 K1; clear hK0 K0; first | omega | contradiction)
            | (
             refine RL.st ?_
             refine NV.p T ?_
             refine RL.st ?_
             refine NV.p T ?_
             refine RL.st ?_
             refine NV.lv1 T ?_
             refine RL.st ?_
             refine NV.p T ?_
             refine RL.st ?_
             refine NV.p T ?_
             refine RL.st ?_
             refine NV.p T ?_
             refine RL.split 36 rfl (fun hs3 => ?_) (fun hs3 => ?_)
             ·try simp only [decide_eq_true_eq, decide_eq_false_iff_not, Bool.not_eq_true', Bool.not_eq_false', Int.not_lt, Int.not_le, Int.toNat_natCast] at hs3
              first
               | (exfalso; clear hK5 K5; clear hK4 K4; clear hK2 K2; clear hK1 K1; clear hK0 K0; first | omega | contradiction)
               | (
                refine RL.guard_no rfl rfl rfl ?_
                refine RL.guard_no rfl rfl rfl ?_
                refine RL.guard_no rfl rfl rfl ?_
                refine RL.guard_no rfl rfl rfl ?_
                refine RL.st ?_
                refine NV.p T ?_
                refine RL.nil _ _ _ _ ?_
                refine hK5 _ _ _ ?_
                refine SW.cond_t rfl ?_
                refine SW.seq_k ?_
                intro K9 hK9
                refine SW.region _ _ _ _ ?_
                refine RL.st ?_
                refine NV.p T ?_
                refine RL.nil _ _ _ _ ?_
                refine hK9 _ _ _ ?_
                refine SW.ret ?_
                refine retQ.ret (H' := H) (RVs.tmp (by conv => lhs; whnf) RVs.nil) (fun w hw => Sat.sub (by repeat first | exact List.Sublist.refl _ | apply List.Sublist.cons_cons | apply List.Sublist.cons | exact List.sublist_append_right _ _ | refine List.Sublist.trans ?_ (List.sublist_append_right _ _)) hw) ?_
                clear hK9 K9 hK5 K5 hK4 K4 hK2 K2 hK1 K1 hK0 K0
                first | exact ⟨rfl, rfl⟩ | (refine ⟨boolE ?_, rfl⟩; simp; done) | (refine ⟨boolE ?_, rfl⟩; simp_all; done)
                )
             ·try simp only [decide_eq_true_eq, decide_eq_false_iff_not, Bool.not_eq_true', Bool.not_eq_false', Int.not_lt, Int.not_le, Int.toNat_natCast] at hs3
              first
               | (exfalso; clear hK5 K5; clear hK4 K4; clear hK2 K2; clear hK1 K1; clear hK0 K0; first | omega | contradiction)
               | (
                refine RL.st ?_
                refine NV.p T ?_
                refine RL.st ?_
                refine NV.p T ?_
                refine RL.st ?_
                refine NV.lv1 T ?_
                refine RL.st ?_
                refine NV.p T ?_
                refine RL.st ?_
                refine NV.p T ?_
                refine RL.nil _ _ _ _ ?_
                refine hK5 _ _ _ ?_
                refine SW.cond rfl (fun hc1 => ?_) (fun hc1 => ?_)
                ·try simp only [decide_eq_true_eq, decide_eq_false_iff_not, Bool.not_eq_true', Bool.not_eq_false', Int.not_lt, Int.not_le, Int.toNat_natCast] at hc1
                 first
                  | (exfalso; clear hK5 K5; clear hK4 K4; clear hK2 K2; clear hK1 K1; clear hK0 K0; first | omega | contradiction)
                  | (
                   refine SW.seq_k ?_
                   intro K10 hK10
                   refine SW.region _ _ _ _ ?_
                   refine RL.st ?_
                   refine NV.p T ?_
                   refine RL.nil _ _ _ _ ?_
                   refine hK10 _ _ _ ?_
                   refine SW.ret ?_
                   refine retQ.ret (H' := H) (RVs.tmp (by conv => lhs; whnf) RVs.nil) (fun w hw => Sat.sub (by repeat first | exact List.Sublist.refl _ | apply List.Sublist.cons_cons | apply List.Sublist.cons | exact List.sublist_append_right _ _ | refine List.Sublist.trans ?_ (List.sublist_append_right _ _)) hw) ?_
                   clear hK10 K10 hK5 K5 hK4 K4 hK2 K2 hK1 K1 hK0 K0
                   first | exact ⟨rfl, rfl⟩ | (refine ⟨boolE ?_, rfl⟩; simp; done) | (refine ⟨boolE ?_, rfl⟩; simp_all; done)
                   )
                ·try simp only [decide_eq_true_eq, decide_eq_false_iff_not, Bool.not_eq_true', Bool.not_eq_false', Int.not_lt, Int.not_le, Int.toNat_natCast] at hc1
                 first
                  | (exfalso; clear hK5 K5; clear hK4 K4; clear hK2 K2; clear hK1 K1; clear hK0 K0; first | omega | contradiction)
                  | (
                   refine SW.skip ?_
                   refine hK4 _ _ _ ?_
                   refine SW.seq_k ?_
                   intro K11 hK11
                   refine SW.region _ _ _ _ ?_
                   refine RL.st ?_
                   refine NV.p T ?_
                   refine RL.st ?_
                   refine NV.load_varN T rfl rfl rfl rfl rfl (by repeat first | exact At.head _ _ | assumption | exact At.put (by assumption) _ | apply At.tail | apply At.app) (by exact (rfl : _ = [_, _])) rfl ?_
                   refine RL.st ?_
                   refine NV.alloc T rfl rfl rfl (by exact (rfl : _ = [_, _])) ?_
                   intro b5_1
                   refine RL.st ?_
                   first
                     | refine NV.store_var1 T rfl rfl rfl rfl (by conv => lhs; whnf) rfl (by repeat first | exact At.head _ _ | assumption | exact At.put (by assumption) _ | apply At.tail | apply At.app) rfl (by exact (rfl : _ = [_, _])) ?_
                     | refine NV.store_var T rfl rfl rfl (by exact (rfl : _ = [_, _])) rfl rfl (by repeat first | exact At.head _ _ | assumption | exact At.put (by assumption) _ | apply At.tail | apply At.app) (Nat.le_of_ble_eq_true rfl) (by exact (rfl : _ = [_, _])) ?_
                     | refine NV.store_elem T rfl rfl rfl rfl (by conv => lhs; whnf) rfl (by repeat first | exact At.head _ _ | assumption | exact At.put (by assumption) _ | apply At.tail | apply At.app) (by omega) ?_
                   refine RL.nil _ _ _ _ ?_
                   refine hK11 _ _ _ ?_
                   refine SW.seq_k ?_
                   intro K12 hK12
                   refine SW.draw [(44, 0), (45, 1), (46, 2), (47, 3), (48, 4), (49, 5), (50, 6), (51, 7), (52, 8), (53, 9), (54, 10), (55, 11), (56, 12), (57, 13), (58, 14), (6, 15)] [[], [0], [], [2], [1, 0, 3, 2], [], [5], [6, 5], [], [8], [7, 6, 5, 9, 8], [], [11], [10, 7, 6, 5, 9, 8, 12, 11], [4, 1, 0, 3, 2, 13, 10, 7, 6, 5, 9, 8, 12, 11], [14, 4, 1, 0, 3, 2, 13, 10, 7, 6, 5, 9, 8, 12, 11]] mixed (by kernel_rfl) (by kernel_rfl) ?_
                   refine RD.q rfl rfl (Gd.none rfl) (pev_sound T (by conv => lhs; whnf; arg 1; whnf)) ?_
                   refine RD.q rfl rfl (Gd.none rfl) (QV.convI T rfl rfl rfl rfl (by show (-9223372036854775808 : Int) ≤ _; omega) (by show _ ≤ (9223372036854775807 : Int); omega)) ?_
                   refine RD.q rfl rfl (Gd.none rfl) (pev_sound T (by conv => lhs; whnf; arg 1; whnf)) ?_
                   refine RD.q rfl rfl (Gd.none rfl) (by first | exact QV.load_var1 T rfl rfl rfl rfl (by repeat first | exact At.head _ _ | assumption | exact At.put (by assumption) _ | apply At.tail | apply At.app) rfl | exact QV.load_varN T rfl rfl rfl rfl rfl (by repeat first | exact At.head _ _ | assumption | exact At.put (by assumption) _ | apply At.tail | apply At.app) (by exact (rfl : _ = [_])) rfl | exact QV.load_elem T rfl rfl rfl rfl (Rd.row (by repeat first | exact At.head _ _ | apply At.tail | apply At.app) hs) (by first | exact map_as (by omega) hz | exact map_get _ _ (by omega))) ?_
                   refine RD.q rfl rfl (Gd.none rfl) (by first | exact QV.arith rfl rfl rfl rfl (by omega) (by omega) | exact pev_sound T rfl) ?_
                   refine RD.q rfl rfl (Gd.none rfl) (pev_sound T (by conv => lhs; whnf; arg 1; whnf)) ?_
                   refine RD.q rfl rfl (Gd.none rfl) (by first | exact QV.load_var1 T rfl rfl rfl rfl (by repeat first | exact At.head _ _ | assumption | exact At.put (by assumption) _ | apply At.tail | apply At.app) rfl | exact QV.load_varN T rfl rfl rfl rfl rfl (by repeat first | exact At.head _ _ | assumption | exact At.put (by assumption) _ | apply At.tail | apply At.app) (by exact (rfl : _ = [_])) rfl | exact QV.load_elem T rfl rfl rfl rfl (Rd.row (by repeat first | exact At.head _ _ | apply At.tail | apply At.app) hs) (by first | exact map_as (by omega) hz | exact map_get _ _ (by omega))) ?_
                   refine RD.q rfl rfl (Gd.none rfl) (by first | exact QV.as (pev_sound T rfl) (congrArg (Value.int .i64) hk) | exact pev_sound T rfl) ?_
                   refine RD.q rfl rfl (Gd.none rfl) (pev_sound T (by conv => lhs; whnf; arg 1; whnf)) ?_
                   refine RD.q rfl rfl (Gd.none rfl) (by first | exact QV.load_var1 T rfl rfl rfl rfl (by repeat first | exact At.head _ _ | assumption | exact At.put (by assumption) _ | apply At.tail | apply At.app) rfl | exact QV.load_varN T rfl rfl rfl rfl rfl (by repeat first | exact At.head _ _ | assumption | exact At.put (by assumption) _ | apply At.tail | apply At.app) (by exact (rfl : _ = [_])) rfl | exact QV.load_elem T rfl rfl rfl rfl (Rd.row (by repeat first | exact At.head _ _ | apply At.tail | apply At.app) hs) (by first | exact map_as (by omega) hz | exact map_get _ _ (by omega))) ?_
                   refine RD.q rfl rfl (Gd.none rfl) (QV.quo rfl rfl rfl (by omega) hx) ?_
                   refine RD.q rfl rfl (Gd.none rfl) (pev_sound T (by conv => lhs; whnf; arg 1; whnf)) ?_
                   refine RD.q rfl rfl (Gd.none rfl) (by first | exact QV.load_var1 T rfl rfl rfl rfl (by repeat first | exact At.head _ _ | assumption | exact At.put (by assumption) _ | apply At.tail | apply At.app) rfl | exact QV.load_varN T rfl rfl rfl rfl rfl (by repeat first | exact At.head _ _ | assumption | exact At.put (by assumption) _ | apply At.tail | apply At.app) (by exact (rfl : _ = [_])) rfl | exact QV.load_elem T rfl rfl rfl rfl (Rd.row (by repeat first | exact At.head _ _ | apply At.tail | apply At.app) hs) (by first | exact map_as (by omega) hz | exact map_get _ _ (by omega))) ?_
                   refine RD.q rfl rfl (Gd.none rfl) (by first | exact QV.arith rfl rfl rfl rfl (by omega) (by omega) | exact pev_sound T rfl) ?_
                   refine RD.q rfl rfl (Gd.none rfl) (by first | exact QV.as (pev_sound T rfl) (congrArg (Value.int .i64) hk) | exact pev_sound T rfl) ?_
                   refine RD.q rfl rfl (Gd.none rfl) (pev_sound T (by conv => lhs; whnf; arg 1; whnf)) ?_
                   refine RD.k rfl rfl ?_
                   refine hK12 _ _ _ ?_
                   refine SW.seq_k ?_
                   intro K13 hK13
                   refine SW.region _ _ _ _ ?_
                   refine RL.st ?_
                   refine NV.p T ?_
                   refine RL.st ?_
                   refine NV.lv1 T ?_
                   refine RL.st ?_
                   refine NV.p T ?_
                   refine RL.st ?_
                   refine NV.lv1 T ?_
                   refine RL.st ?_
                   refine NV.load_varN T rfl rfl rfl rfl rfl (by repeat first | exact At.head _ _ | assumption | exact At.put (by assumption) _ | apply At.tail | apply At.app) (by exact (rfl : _ = [_, _])) rfl ?_
                   refine RL.st ?_
                   refine NV.call rfl rfl rfl fun11 rfl rfl ((put prev ev ah sa n c es (hR _) hn hm p0 hb).mono (fun v H' h => by rw [hW] at h; dsimp only at h; exact h)) ?_
                   rintro _ _ ⟨s1, k1, rfl, e⟩; obtain rfl := e.symm
                   refine RL.st ?_
                   refine NV.p T ?_
                   refine RL.st ?_
                   refine NV.p T ?_
                   refine RL.st ?_
                   refine NV.p T ?_
                   refine RL.st ?_
                   refine NV.p T ?_
                   refine RL.st ?_
                   refine NV.p T ?_
                   refine RL.nil _ _ _ _ ?_
                   refine hK13 _ _ _ ?_
                   refine SW.seq_k ?_
                   intro K14 hK14
                   refine SW.draw [(69, 0), (70, 1), (71, 2), (72, 3), (73, 4), (74, 5), (75, 6), (76, 7), (68, 8), (77, 9), (78, 10), (9, 11), (10, 12)] [[], [0], [], [2], [], [3, 2, 4], [], [1, 0, 5, 3, 2, 4, 6], [7, 1, 0, 5, 3, 2, 4, 6], [8, 7, 1, 0, 5, 3, 2, 4, 6], [8, 7, 1, 0, 5, 3, 2, 4, 6], [9, 8, 7, 1, 0, 5, 3, 2, 4, 6], [10, 8, 7, 1, 0, 5, 3, 2, 4, 6, 11, 9]] mixed (by kernel_rfl) (by kernel_rfl) ?_
                   refine RD.q rfl rfl (Gd.none rfl) (pev_sound T (by conv => lhs; whnf; arg 1; whnf)) ?_
                   refine RD.q rfl rfl (Gd.none rfl) (by first | exact QV.load_var1 T rfl rfl rfl rfl (by repeat first | exact At.head _ _ | assumption | exact At.put (by assumption) _ | apply At.tail | apply At.app) rfl | exact QV.load_varN T rfl rfl rfl rfl rfl (by repeat first | exact At.head _ _ | assumption | exact At.put (by assumption) _ | apply At.tail | apply At.app) (by exact (rfl : _ = [_])) rfl | exact QV.load_elem T rfl rfl rfl rfl (Rd.row (by repeat first | exact At.head _ _ | apply At.tail | apply At.app) hs) (by first | exact map_as (by omega) hz | exact map_get _ _ (by omega))) ?_
                   refine RD.q rfl rfl (Gd.none rfl) (pev_sound T (by conv => lhs; whnf; arg 1; whnf)) ?_
                   refine RD.q rfl rfl (Gd.none rfl) (by first | exact QV.load_var1 T rfl rfl rfl rfl (by repeat first | exact At.head _ _ | assumption | exact At.put (by assumption) _ | apply At.tail | apply At.app) rfl | exact QV.load_varN T rfl rfl rfl rfl rfl (by repeat first | exact At.head _ _ | assumption | exact At.put (by assumption) _ | apply At.tail | apply At.app) (by exact (rfl : _ = [_])) rfl | exact QV.load_elem T rfl rfl rfl rfl (Rd.row (by repeat first | exact At.head _ _ | apply At.tail | apply At.app) hs) (by first | exact map_as (by omega) hz | exact map_get _ _ (by omega))) ?_
                   refine RD.q rfl rfl (Gd.none rfl) (pev_sound T (by conv => lhs; whnf; arg 1; whnf)) ?_
                   refine RD.q rfl rfl (Gd.none rfl) (by first | exact QV.slice T rfl rfl rfl rfl rfl ⟨_, rfl⟩ (by omega) (by omega) | exact QV.slice T rfl rfl rfl rfl ⟨_, rfl⟩ rfl (by omega) (by omega)) ?_
                   refine RD.q rfl rfl (Gd.none rfl) (by first | exact QV.load_var1 T rfl rfl rfl rfl (by repeat first | exact At.head _ _ | assumption | exact At.put (by assumption) _ | apply At.tail | apply At.app) rfl | exact QV.load_varN T rfl rfl rfl rfl rfl (by repeat first | exact At.head _ _ | assumption | exact At.put (by assumption) _ | apply At.tail | apply At.app) (by exact (rfl : _ = [_, _])) rfl | exact QV.load_elem T rfl rfl rfl rfl (Rd.row (by repeat first | exact At.head _ _ | apply At.tail | apply At.app) hs) (by first | exact map_as (by omega) hz | exact map_get _ _ (by omega))) ?_
                   refine RD.nv rfl rfl rfl (Gd.none rfl) ?_
                   refine NV.call rfl rfl rfl fun11 rfl rfl ((put prev ev ah _ (k - 0) (c - 0) (es.take k) (((hR _).sub (l := 0) (h := k) (by omega) hkn).as (by simp [List.map_take])) (by simp; omega) (by omega) p0 (fun z hz => hb z (List.mem_of_mem_take hz))).mono (fun v H' h => by rw [hA] at h; dsimp only at h; exact h)) ?_
                   rintro _ _ ⟨s2, k2, rfl, e⟩; obtain rfl := e.symm
                   refine ⟨Stab.nil, ?_⟩
                   refine RD.q rfl rfl (Gd.none rfl) (pev_sound T (by conv => lhs; whnf; arg 1; whnf)) ?_
                   refine RD.q rfl rfl (Gd.none rfl) (pev_sound T (by conv => lhs; whnf; arg 1; whnf)) ?_
                   refine RD.q rfl rfl (Gd.none rfl) (pev_sound T (by conv => lhs; whnf; arg 1; whnf)) ?_
                   refine RD.q rfl rfl (Gd.none rfl) (pev_sound T (by conv => lhs; whnf; arg 1; whnf)) ?_
                   refine RD.q rfl rfl (Gd.none rfl) (pev_sound T (by conv => lhs; whnf; arg 1; whnf)) ?_
                   refine RD.k rfl rfl ?_
                   refine hK14 _ _ _ ?_
                   refine SW.seq_k ?_
                   intro K15 hK15
                   refine SW.seq_k ?_
                   intro K16 hK16
                   refine SW.region _ _ _ _ ?_
                   refine RL.st ?_
                   refine NV.p T ?_
                   refine RL.st ?_
                   refine NV.p T ?_
                   refine RL.st ?_
                   refine NV.p T ?_
                   refine RL.split 81 rfl (fun hs4 => ?_) (fun hs4 => ?_)
                   ·try simp only [decide_eq_true_eq, decide_eq_false_iff_not, Bool.not_eq_true', Bool.not_eq_false', Int.not_lt, Int.not_le, Int.toNat_natCast] at hs4
                    first
                     | (exfalso; clear hK16 K16; clear hK15 K15; clear hK14 K14; clear hK13 K13; clear hK12 K12; clear hK11 K11; clear hK5 K5; clear hK4 K4; clear hK2 K2; clear hK1 K1; clear hK0 K0; first | omega | contradiction)
                     | (
                      refine RL.guard_no rfl rfl rfl ?_
                      refine RL.guard_no rfl rfl rfl ?_
                      refine RL.st ?_
                      refine NV.p T ?_
                      refine RL.st ?_
                      refine NV.p T ?_
                      refine RL.guard_no rfl rfl rfl ?_
                      refine RL.guard_no rfl rfl rfl ?_
                      refine RL.st ?_
                      refine NV.p T ?_
                      refine RL.nil _ _ _ _ ?_
                      refine hK16 _ _ _ ?_
                      refine SW.cond_t rfl ?_
                      refine SW.seq_k ?_
                      intro K17 hK17
                      refine SW.region _ _ _ _ ?_
                      refine RL.st ?_
                      refine NV.p T ?_
                      refine RL.st ?_
                      refine NV.p T ?_
                      refine RL.st ?_
                      refine NV.p T ?_
                      refine RL.split 91 rfl (fun hs5 => ?_) (fun hs5 => ?_)
                      ·try simp only [decide_eq_true_eq, decide_eq_false_iff_not, Bool.not_eq_true', Bool.not_eq_false', Int.not_lt, Int.not_le, Int.toNat_natCast] at hs5
                       first
                        | (exfalso; clear hK17 K17; clear hK16 K16; clear hK15 K15; clear hK14 K14; clear hK13 K13; clear hK12 K12; clear hK11 K11; clear hK5 K5; clear hK4 K4; clear hK2 K2; clear hK1 K1; clear hK0 K0; first | omega | contradiction)
                        | (
                         refine RL.st ?_
                         refine NV.p T ?_
                         refine RL.st ?_
                         refine NV.p T ?_
                         refine RL.st ?_
                         refine NV.p T ?_
                         refine RL.st ?_
                         refine NV.p T ?_
                         refine RL.nil _ _ _ _ ?_
                         refine hK17 _ _ _ ?_
                         refine SW.ret ?_
                         refine retQ.ret (H' := H) (RVs.tmp (by conv => lhs; whnf) RVs.nil) (fun w hw => Sat.sub (by repeat first | exact List.Sublist.refl _ | apply List.Sublist.cons_cons | apply List.Sublist.cons | exact List.sublist_append_right _ _ | refine List.Sublist.trans ?_ (List.sublist_append_right _ _)) hw) ?_
                         clear hK17 K17 hK16 K16 hK15 K15 hK14 K14 hK13 K13 hK12 K12 hK11 K11 hK5 K5 hK4 K4 hK2 K2 hK1 K1 hK0 K0
                         first | exact ⟨rfl, rfl⟩ | (refine ⟨boolE ?_, rfl⟩; simp; done) | (refine ⟨boolE ?_, rfl⟩; simp_all; done)
                         )
                      ·try simp only [decide_eq_true_eq, decide_eq_false_iff_not, Bool.not_eq_true', Bool.not_eq_false', Int.not_lt, Int.not_le, Int.toNat_natCast] at hs5
                       first
                        | (exfalso; clear hK17 K17; clear hK16 K16; clear hK15 K15; clear hK14 K14; clear hK13 K13; clear hK12 K12; clear hK11 K11; clear hK5 K5; clear hK4 K4; clear hK2 K2; clear hK1 K1; clear hK0 K0; first | omega | contradiction)
                        | (
                         refine RL.guard_no rfl rfl rfl ?_
                         refine RL.guard_no rfl rfl rfl ?_
                         refine RL.st ?_
                         refine NV.p T ?_
                         refine RL.st ?_
                         refine NV.p T ?_
                         refine RL.nil _ _ _ _ ?_
                         refine hK17 _ _ _ ?_
                         refine SW.ret ?_
                         refine retQ.ret (H' := H) (RVs.tmp (by conv => lhs; whnf) RVs.nil) (fun w hw => Sat.sub (by repeat first | exact List.Sublist.refl _ | apply List.Sublist.cons_cons | apply List.Sublist.cons | exact List.sublist_append_right _ _ | refine List.Sublist.trans ?_ (List.sublist_append_right _ _)) hw) ?_
                         clear hK17 K17 hK16 K16 hK15 K15 hK14 K14 hK13 K13 hK12 K12 hK11 K11 hK5 K5 hK4 K4 hK2 K2 hK1 K1 hK0 K0
                         first | exact ⟨rfl, rfl⟩ | (refine ⟨boolE ?_, rfl⟩; simp; done) | (refine ⟨boolE ?_, rfl⟩; simp_all; done)
                         )
                      )
                   ·try simp only [decide_eq_true_eq, decide_eq_false_iff_not, Bool.not_eq_true', Bool.not_eq_false', Int.not_lt, Int.not_le, Int.toNat_natCast] at hs4
                    first
                     | (exfalso; clear hK16 K16; clear hK15 K15; clear hK14 K14; clear hK13 K13; clear hK12 K12; clear hK11 K11; clear hK5 K5; clear hK4 K4; clear hK2 K2; clear hK1 K1; clear hK0 K0; first | omega | contradiction)
                     | (
                      refine RL.st ?_
                      refine NV.p T ?_
                      refine RL.st ?_
                      refine NV.p T ?_
                      refine RL.st ?_
                      refine NV.p T ?_
                      refine RL.st ?_
                      refine NV.p T ?_
                      refine RL.split 85 rfl (fun hs6 => ?_) (fun hs6 => ?_)
                      ·try simp only [decide_eq_true_eq, decide_eq_false_iff_not, Bool.not_eq_true', Bool.not_eq_false', Int.not_lt, Int.not_le, Int.toNat_natCast] at hs6
                       first
                        | (exfalso; clear hK16 K16; clear hK15 K15; clear hK14 K14; clear hK13 K13; clear hK12 K12; clear hK11 K11; clear hK5 K5; clear hK4 K4; clear hK2 K2; clear hK1 K1; clear hK0 K0; first | omega | contradiction)
                        | (
                         refine RL.guard_no rfl rfl rfl ?_
                         refine RL.guard_no rfl rfl rfl ?_
                         refine RL.st ?_
                         refine NV.p T ?_
                         refine RL.nil _ _ _ _ ?_
                         refine hK16 _ _ _ ?_
                         refine SW.cond_t rfl ?_
                         refine SW.seq_k ?_
                         intro K18 hK18
                         refine SW.region _ _ _ _ ?_
                         refine RL.st ?_
                         refine NV.p T ?_
                         refine RL.st ?_
                         refine NV.p T ?_
                         refine RL.st ?_
                         refine NV.p T ?_
                         refine RL.split 91 rfl (fun hs7 => ?_) (fun hs7 => ?_)
                         ·try simp only [decide_eq_true_eq, decide_eq_false_iff_not, Bool.not_eq_true', Bool.not_eq_false', Int.not_lt, Int.not_le, Int.toNat_natCast] at hs7
                          first
                           | (exfalso; clear hK18 K18; clear hK16 K16; clear hK15 K15; clear hK14 K14; clear hK13 K13; clear hK12 K12; clear hK11 K11; clear hK5 K5; clear hK4 K4; clear hK2 K2; clear hK1 K1; clear hK0 K0; first | omega | contradiction)
                           | (
                            refine RL.st ?_
                            refine NV.p T ?_
                            refine RL.st ?_
                            refine NV.p T ?_
                            refine RL.st ?_
                            refine NV.p T ?_
                            refine RL.st ?_
                            refine NV.p T ?_
                            refine RL.nil _ _ _ _ ?_
                            refine hK18 _ _ _ ?_
                            refine SW.ret ?_
                            refine retQ.ret (H' := H) (RVs.tmp (by conv => lhs; whnf) RVs.nil) (fun w hw => Sat.sub (by repeat first | exact List.Sublist.refl _ | apply List.Sublist.cons_cons | apply List.Sublist.cons | exact List.sublist_append_right _ _ | refine List.Sublist.trans ?_ (List.sublist_append_right _ _)) hw) ?_
                            clear hK18 K18 hK16 K16 hK15 K15 hK14 K14 hK13 K13 hK12 K12 hK11 K11 hK5 K5 hK4 K4 hK2 K2 hK1 K1 hK0 K0
                            first | exact ⟨rfl, rfl⟩ | (refine ⟨boolE ?_, rfl⟩; simp; done) | (refine ⟨boolE ?_, rfl⟩; simp_all; done)
                            )
                         ·try simp only [decide_eq_true_eq, decide_eq_false_iff_not, Bool.not_eq_true', Bool.not_eq_false', Int.not_lt, Int.not_le, Int.toNat_natCast] at hs7
                          first
                           | (exfalso; clear hK18 K18; clear hK16 K16; clear hK15 K15; clear hK14 K14; clear hK13 K13; clear hK12 K12; clear hK11 K11; clear hK5 K5; clear hK4 K4; clear hK2 K2; clear hK1 K1; clear hK0 K0; first | omega | contradiction)
                           | (
                            refine RL.guard_no rfl rfl rfl ?_
                            refine RL.guard_no rfl rfl rfl ?_
                            refine RL.st ?_
                            refine NV.p T ?_
                            refine RL.st ?_
                            refine NV.p T ?_
                            refine RL.nil _ _ _ _ ?_
                            refine hK18 _ _ _ ?_
                            refine SW.ret ?_
                            refine retQ.ret (H' := H) (RVs.tmp (by conv => lhs; whnf) RVs.nil) (fun w hw => Sat.sub (by repeat first | exact List.Sublist.refl _ | apply List.Sublist.cons_cons | apply List.Sublist.cons | exact List.sublist_append_right _ _ | refine List.Sublist.trans ?_ (List.sublist_append_right _ _)) hw) ?_
                            clear hK18 K18 hK16 K16 hK15 K15 hK14 K14 hK13 K13 hK12 K12 hK11 K11 hK5 K5 hK4 K4 hK2 K2 hK1 K1 hK0 K0
                            first | exact ⟨rfl, rfl⟩ | (refine ⟨boolE ?_, rfl⟩; simp; done) | (refine ⟨boolE ?_, rfl⟩; simp_all; done)
                            )
                         )
                      ·try simp only [decide_eq_true_eq, decide_eq_false_iff_not, Bool.not_eq_true', Bool.not_eq_false', Int.not_lt, Int.not_le, Int.toNat_natCast] at hs6
                       first
                        | (exfalso; clear hK16 K16; clear hK15 K15; clear hK14 K14; clear hK13 K13; clear hK12 K12; clear hK11 K11; clear hK5 K5; clear hK4 K4; clear hK2 K2; clear hK1 K1; clear hK0 K0; first | omega | contradiction)
                        | (
                         refine RL.st ?_
                         refine NV.p T ?_
                         refine RL.st ?_
                         refine NV.p T ?_
                         refine RL.st ?_
                         refine NV.p T ?_
                         refine RL.nil _ _ _ _ ?_
                         refine hK16 _ _ _ ?_
                         refine SW.cond rfl (fun hc2 => ?_) (fun hc2 => ?_)
                         ·try simp only [decide_eq_true_eq, decide_eq_false_iff_not, Bool.not_eq_true', Bool.not_eq_false', Int.not_lt, Int.not_le, Int.toNat_natCast] at hc2
                          first
                           | (exfalso; clear hK16 K16; clear hK15 K15; clear hK14 K14; clear hK13 K13; clear hK12 K12; clear hK11 K11; clear hK5 K5; clear hK4 K4; clear hK2 K2; clear hK1 K1; clear hK0 K0; first | omega | contradiction)
                           | (
                            refine SW.seq_k ?_
                            intro K19 hK19
                            refine SW.region _ _ _ _ ?_
                            refine RL.st ?_
                            refine NV.p T ?_
                            refine RL.st ?_
                            refine NV.p T ?_
                            refine RL.st ?_
                            refine NV.p T ?_
                            refine RL.split 91 rfl (fun hs8 => ?_) (fun hs8 => ?_)
                            ·try simp only [decide_eq_true_eq, decide_eq_false_iff_not, Bool.not_eq_true', Bool.not_eq_false', Int.not_lt, Int.not_le, Int.toNat_natCast] at hs8
                             first
                              | (exfalso; clear hK19 K19; clear hK16 K16; clear hK15 K15; clear hK14 K14; clear hK13 K13; clear hK12 K12; clear hK11 K11; clear hK5 K5; clear hK4 K4; clear hK2 K2; clear hK1 K1; clear hK0 K0; first | omega | contradiction)
                              | (
                               refine RL.st ?_
                               refine NV.p T ?_
                               refine RL.st ?_
                               refine NV.p T ?_
                               refine RL.st ?_
                               refine NV.p T ?_
                               refine RL.st ?_
                               refine NV.p T ?_
                               refine RL.nil _ _ _ _ ?_
                               refine hK19 _ _ _ ?_
                               refine SW.ret ?_
                               refine retQ.ret (H' := H) (RVs.tmp (by conv => lhs; whnf) RVs.nil) (fun w hw => Sat.sub (by repeat first | exact List.Sublist.refl _ | apply List.Sublist.cons_cons | apply List.Sublist.cons | exact List.sublist_append_right _ _ | refine List.Sublist.trans ?_ (List.sublist_append_right _ _)) hw) ?_
                               clear hK19 K19 hK16 K16 hK15 K15 hK14 K14 hK13 K13 hK12 K12 hK11 K11 hK5 K5 hK4 K4 hK2 K2 hK1 K1 hK0 K0
                               first | exact ⟨rfl, rfl⟩ | (refine ⟨boolE ?_, rfl⟩; simp; done) | (refine ⟨boolE ?_, rfl⟩; simp_all; done)
                               )
                            ·try simp only [decide_eq_true_eq, decide_eq_false_iff_not, Bool.not_eq_true', Bool.not_eq_false', Int.not_lt, Int.not_le, Int.toNat_natCast] at hs8
                             first
                              | (exfalso; clear hK19 K19; clear hK16 K16; clear hK15 K15; clear hK14 K14; clear hK13 K13; clear hK12 K12; clear hK11 K11; clear hK5 K5; clear hK4 K4; clear hK2 K2; clear hK1 K1; clear hK0 K0; first | omega | contradiction)
                              | (
                               refine RL.guard_no rfl rfl rfl ?_
                               refine RL.guard_no rfl rfl rfl ?_
                               refine RL.st ?_
                               refine NV.p T ?_
                               refine RL.st ?_
                               refine NV.p T ?_
                               refine RL.nil _ _ _ _ ?_
                               refine hK19 _ _ _ ?_
                               refine SW.ret ?_
                               refine retQ.ret (H' := H) (RVs.tmp (by conv => lhs; whnf) RVs.nil) (fun w hw => Sat.sub (by repeat first | exact List.Sublist.refl _ | apply List.Sublist.cons_cons | apply List.Sublist.cons | exact List.sublist_append_right _ _ | refine List.Sublist.trans ?_ (List.sublist_append_right _ _)) hw) ?_
                               clear hK19 K19 hK16 K16 hK15 K15 hK14 K14 hK13 K13 hK12 K12 hK11 K11 hK5 K5 hK4 K4 hK2 K2 hK1 K1 hK0 K0
                               first | exact ⟨rfl, rfl⟩ | (refine ⟨boolE ?_, rfl⟩; simp; done) | (refine ⟨boolE ?_, rfl⟩; simp_all; done)
                               )
                            )
                         ·try simp only [decide_eq_true_eq, decide_eq_false_iff_not, Bool.not_eq_true', Bool.not_eq_false', Int.not_lt, Int.not_le, Int.toNat_natCast] at hc2
                          first
                           | (exfalso; clear hK16 K16; clear hK15 K15; clear hK14 K14; clear hK13 K13; clear hK12 K12; clear hK11 K11; clear hK5 K5; clear hK4 K4; clear hK2 K2; clear hK1 K1; clear hK0 K0; first | omega | contradiction)
                           | (
                            refine SW.skip ?_
                            refine hK15 _ _ _ ?_
                            refine SW.seq_k ?_
                            intro K20 hK20
                            obtain ⟨hne, z0, z1, B, hBv, lB, hWAB⟩ := hB (by omega)
                            have hAl : 0 < A.length := List.length_pos_iff.2 hne
                            obtain ⟨z, hz⟩ : ∃ z, A.getD (((A.length : Nat) : Int) - 1).toNat 0 = z := ⟨_, rfl⟩
                            have hz2 : A.getD (A.length - 1) 0 = z := by rw [← hz]; congr 1; omega
                            rw [hz2] at z0 z1 hBv
                            refine SW.sat (fun hs => ?_)
                            refine SW.draw [(96, 0), (97, 1), (98, 2), (99, 3), (100, 4), (101, 5), (102, 6), (103, 7), (104, 8), (105, 9), (106, 10), (107, 11), (108, 12), (109, 13), (95, 14), (110, 15), (111, 16), (11, 17), (12, 18)] [[], [], [1], [2, 1], [0, 3, 2, 1], [4, 0, 3, 2, 1], [], [6], [], [7, 6, 8], [], [10], [11, 10], [5, 4, 0, 3, 2, 1, 9, 7, 6, 8, 12, 11, 10], [13, 5, 4, 0, 3, 2, 1, 9, 7, 6, 8, 12, 11, 10], [14, 13, 5, 4, 0, 3, 2, 1, 9, 7, 6, 8, 12, 11, 10], [14, 13, 5, 4, 0, 3, 2, 1, 9, 7, 6, 8, 12, 11, 10], [15, 14, 13, 5, 4, 0, 3, 2, 1, 9, 7, 6, 8, 12, 11, 10], [16, 14, 13, 5, 4, 0, 3, 2, 1, 9, 7, 6, 8, 12, 11, 10, 17, 15]] mixed (by kernel_rfl) (by kernel_rfl) ?_
                            refine RD.q rfl rfl (Gd.none rfl) (pev_sound T (by conv => lhs; whnf; arg 1; whnf)) ?_
                            refine RD.q rfl rfl (Gd.none rfl) (pev_sound T (by conv => lhs; whnf; arg 1; whnf)) ?_
                            refine RD.q rfl rfl (Gd.none rfl) (by first | exact QV.as (pev_sound T rfl) (congrArg (Value.int .i64) hk) | exact pev_sound T rfl) ?_
                            refine RD.q rfl rfl (Gd.none rfl) (by first | exact QV.arith rfl rfl rfl rfl (by omega) (by omega) | exact QV.arith_u8 rfl rfl rfl rfl (by omega) (by omega) | exact QV.arith_u16 rfl rfl rfl rfl (by omega) (by omega) | exact QV.arith_u32 rfl rfl rfl rfl (by omega) (by omega) | exact QV.arith_u64 rfl rfl rfl rfl (by omega) (by omega) | exact pev_sound T rfl) ?_
                            refine RD.q rfl rfl (Gd.none rfl) (by first | exact QV.indexAddr_array T rfl rfl rfl rfl rfl (by omega) (by omega) | exact QV.indexAddr_slice T rfl rfl rfl rfl rfl (Rd.some (Rd.row (by repeat first | exact At.head _ _ | apply At.tail | apply At.app) hs) (by omega)) (by omega) (by omega)) ?_
                            refine RD.q rfl rfl (Gd.none rfl) (by first | exact QV.load_var1 T rfl rfl rfl rfl (by repeat first | exact At.head _ _ | assumption | exact At.put (by assumption) _ | apply At.tail | apply At.app) rfl | exact QV.load_varN T rfl rfl rfl rfl rfl (by repeat first | exact At.head _ _ | assumption | exact At.put (by assumption) _ | apply At.tail | apply At.app) (by exact (rfl : _ = [_])) rfl | exact QV.load_elem T rfl rfl rfl rfl (Rd.row (by repeat first | exact At.head _ _ | apply At.tail | apply At.app) hs) (by first | exact map_as (by omega) hz | exact map_get _ _ (by omega))) ?_
                            refine RD.q rfl rfl (Gd.none rfl) (pev_sound T (by conv => lhs; whnf; arg 1; whnf)) ?_
                            refine RD.q rfl rfl (Gd.none rfl) (by first | exact QV.load_var1 T rfl rfl rfl rfl (by repeat first | exact At.head _ _ | assumption | exact At.put (by assumption) _ | apply At.tail | apply At.app) rfl | exact QV.load_varN T rfl rfl rfl rfl rfl (by repeat first | exact At.head _ _ | assumption | exact At.put (by assumption) _ | apply At.tail | apply At.app) (by exact (rfl : _ = [_])) rfl | exact QV.load_elem T rfl rfl rfl rfl (Rd.row (by repeat first | exact At.head _ _ | apply At.tail | apply At.app) hs) (by first | exact map_as (by omega) hz | exact map_get _ _ (by omega))) ?_
                            refine RD.q rfl rfl (Gd.none rfl) (pev_sound T (by conv => lhs; whnf; arg 1; whnf)) ?_
                            refine RD.q rfl rfl (Gd.none rfl) (by first | exact QV.slice T rfl rfl rfl rfl rfl ⟨_, rfl⟩ (by omega) (by omega) | exact QV.slice T rfl rfl rfl rfl ⟨_, rfl⟩ rfl (by omega) (by omega)) ?_
                            refine RD.q rfl rfl (Gd.none rfl) (pev_sound T (by conv => lhs; whnf; arg 1; whnf)) ?_
                            refine RD.q rfl rfl (Gd.none rfl) (by first | exact QV.load_var1 T rfl rfl rfl rfl (by repeat first | exact At.head _ _ | assumption | exact At.put (by assumption) _ | apply At.tail | apply At.app) rfl | exact QV.load_varN T rfl rfl rfl rfl rfl (by repeat first | exact At.head _ _ | assumption | exact At.put (by assumption) _ | apply At.tail | apply At.app) (by exact (rfl : _ = [_])) rfl | exact QV.load_elem T rfl rfl rfl rfl (Rd.row (by repeat first | exact At.head _ _ | apply At.tail | apply At.app) hs) (by first | exact map_as (by omega) hz | exact map_get _ _ (by omega))) ?_
                            refine RD.q rfl rfl (Gd.none rfl) (by first | exact QV.buildc T rfl (rfl : _ = some [_, _]) | exact pev_sound T (rfl : _ = some (Value.agg #[_, _]))) ?_
                            refine RD.nv rfl rfl rfl (Gd.none rfl) ?_
                            refine NV.call rfl rfl rfl fun11 rfl rfl ((put z ev true _ (n - k) (c - k) (es.drop k) (((hR _).sub (l := k) (h := n) hkn (Nat.le_refl _)).as (by rw [Nat.mul_one, Nat.mul_one, ← List.map_drop, List.take_of_length_le (by simp; omega)])) (by simp; omega) (by omega) z0 (fun y hy => hb y (List.mem_of_mem_drop hy))).mono (fun v H' h => by rw [hBv] at h; dsimp only at h; exact h)) ?_
                            rintro _ _ ⟨s3, k3, rfl, e⟩; obtain rfl := e.symm
                            refine ⟨Stab.nil, ?_⟩
                            refine RD.q rfl rfl (Gd.none rfl) (pev_sound T (by conv => lhs; whnf; arg 1; whnf)) ?_
                            refine RD.q rfl rfl (Gd.none rfl) (pev_sound T (by conv => lhs; whnf; arg 1; whnf)) ?_
                            refine RD.q rfl rfl (Gd.none rfl) (pev_sound T (by conv => lhs; whnf; arg 1; whnf)) ?_
                            refine RD.q rfl rfl (Gd.none rfl) (pev_sound T (by conv => lhs; whnf; arg 1; whnf)) ?_
                            refine RD.q rfl rfl (Gd.none rfl) (pev_sound T (by conv => lhs; whnf; arg 1; whnf)) ?_
                            refine RD.k rfl rfl ?_
                            refine hK20 _ _ _ ?_
                            refine SW.seq_k ?_
                            intro K21 hK21
                            refine SW.region _ _ _ _ ?_
                            refine RL.st ?_
                            refine NV.p T ?_
                            refine RL.st ?_
                            refine NV.p T ?_
                            refine RL.st ?_
                            refine NV.p T ?_
                            refine RL.split 114 rfl (fun hs9 => ?_) (fun hs9 => ?_)
                            ·try simp only [decide_eq_true_eq, decide_eq_false_iff_not, Bool.not_eq_true', Bool.not_eq_false', Int.not_lt, Int.not_le, Int.toNat_natCast] at hs9
                             first
                              | (exfalso; clear hK21 K21; clear hK20 K20; clear hK16 K16; clear hK15 K15; clear hK14 K14; clear hK13 K13; clear hK12 K12; clear hK11 K11; clear hK5 K5; clear hK4 K4; clear hK2 K2; clear hK1 K1; clear hK0 K0; first | omega | contradiction)
                              | (
                               refine RL.st ?_
                               refine NV.p T ?_
                               refine RL.st ?_
                               refine NV.p T ?_
                               refine RL.st ?_
                               refine NV.sat (fun hs => ?_) (fun c hc => by cases hc)
                               refine NV.append T rfl rfl rfl rfl rfl rfl rfl rfl rfl rfl (by repeat first | exact At.head _ _ | apply At.tail | apply At.app) (Rd.row (by repeat first | exact At.head _ _ | apply At.tail | apply At.app) hs) (ones_map _ _) (by unfold maxLen; omega) (by show (_ + _) * 1 ≤ 140737488355328; omega) ?_
                               intro a9 c9
                               refine RL.st ?_
                               refine NV.p T ?_
                               refine RL.st ?_
                               refine NV.sat (fun hs => ?_) (fun c hc => by cases hc)
                               refine NV.call rfl rfl rfl fun12 rfl rfl ((same a9 s1 (A.length + B.length) c9 W.length k1 (A ++ B) W ((Rd.row (by repeat first | exact At.head _ _ | apply At.tail | apply At.app) hs).as (by simp)) (Rd.row (by repeat first | exact At.head _ _ | apply At.tail | apply At.app) hs) (by simp) rfl (by omega) (by omega)).mono (fun v H' h => by rw [decide_eq_true hWAB.symm] at h; exact h)) ?_
                               rintro _ _ ⟨rfl, e⟩; obtain rfl := e.symm
                               refine RL.st ?_
                               refine NV.p T ?_
                               refine RL.st ?_
                               refine NV.p T ?_
                               refine RL.nil _ _ _ _ ?_
                               refine hK21 _ _ _ ?_
                               refine SW.ret ?_
                               refine retQ.ret (H' := H) (RVs.tmp (by conv => lhs; whnf) RVs.nil) (fun w hw => Sat.sub (by repeat first | exact List.Sublist.refl _ | apply List.Sublist.cons_cons | apply List.Sublist.cons | exact List.sublist_append_right _ _ | refine List.Sublist.trans ?_ (List.sublist_append_right _ _)) hw) ?_
                               clear hK21 K21 hK20 K20 hK16 K16 hK15 K15 hK14 K14 hK13 K13 hK12 K12 hK11 K11 hK5 K5 hK4 K4 hK2 K2 hK1 K1 hK0 K0
                               first | exact ⟨rfl, rfl⟩ | (refine ⟨boolE ?_, rfl⟩; simp; done) | (refine ⟨boolE ?_, rfl⟩; simp_all; done)
                               )
                            ·try simp only [decide_eq_true_eq, decide_eq_false_iff_not, Bool.not_eq_true', Bool.not_eq_false', Int.not_lt, Int.not_le, Int.toNat_natCast] at hs9
                             first
                              | (exfalso; clear hK21 K21; clear hK20 K20; clear hK16 K16; clear hK15 K15; clear hK14 K14; clear hK13 K13; clear hK12 K12; clear hK11 K11; clear hK5 K5; clear hK4 K4; clear hK2 K2; clear hK1 K1; clear hK0 K0; first | omega | contradiction)
                              | (
                               refine RL.guard_no rfl rfl rfl ?_
                               refine RL.guard_no rfl rfl rfl ?_
                               refine RL.guard_no rfl rfl rfl ?_
                               refine RL.guard_no rfl rfl rfl ?_
                               refine RL.guard_no rfl rfl rfl ?_
                               refine RL.st ?_
                               refine NV.p T ?_
                               refine RL.st ?_
                               refine NV.p T ?_
                               refine RL.nil _ _ _ _ ?_
                               refine hK21 _ _ _ ?_
                               refine SW.ret ?_
                               refine retQ.ret (H' := H) (RVs.tmp (by conv => lhs; whnf) RVs.nil) (fun w hw => Sat.sub (by repeat first | exact List.Sublist.refl _ | apply List.Sublist.cons_cons | apply List.Sublist.cons | exact List.sublist_append_right _ _ | refine List.Sublist.trans ?_ (List.sublist_append_right _ _)) hw) ?_
                               clear hK21 K21 hK20 K20 hK16 K16 hK15 K15 hK14 K14 hK13 K13 hK12 K12 hK11 K11 hK5 K5 hK4 K4 hK2 K2 hK1 K1 hK0 K0
                               first | exact ⟨rfl, rfl⟩ | (refine ⟨boolE ?_, rfl⟩; simp; done) | (refine ⟨boolE ?_, rfl⟩; simp_all; done)
                               )
                            )
                         )
                      )
                   )
                )
             )
          )
       )
    )
theorem fixedParts {w0 : World} {H : List Chunk} (prev ev : Int) (ah : Bool) (p0 : 0 ≤ prev) (sa : Option Addr) (n c : Nat) (es : List Int) (hR : ∀ H, Rd w0 H sa n c 1 (es.map (.int .u8))) (hn : n = es.length) (hm : n ≤ 140737488351232) (hb : Byte es) (p : Int) (q0 : 0 ≤ p) (q1 : p ≤ 255) : SC Try.prog w0 3 #[.agg #[.int .u8 prev, .slice sa n c, .int .i64 ev, .bool ah], .int .u8 p] H (fun v H' => v = .bool true ∧ H' = H) := by
  by_cases h : 2000 < n ∨ 1 < prev ∨ chk es ≠ 0 ∨ ev < 1 ∨ 64 < ev
  · exact parts_no prev ev ah p0 sa n c es hR hn hm hb p h
  · have hc : chk es = 0 := by omega
    have hbit := bit_of hb (chk_zero.1 hc).2
    have e1 : 1 ≤ ev := by omega
    have e2 : ev ≤ 64 := by omega
    have t1 : 0 ≤ (n : Int).tdiv ev := Int.tdiv_nonneg (by omega) (by omega)
    have t2 : (n : Int).tdiv ev * ev ≤ n := by rw [Int.tdiv_eq_ediv_of_nonneg (by omega)]; exact Int.ediv_mul_le _ (by omega)
    have t3 : (n : Int).tdiv ev ≤ n := by rw [Int.tdiv_eq_ediv_of_nonneg (by omega)]; exact Int.ediv_le_self _ (by omega)
    have t4 : 0 ≤ (n : Int).tdiv ev * ev := Int.mul_nonneg t1 (by omega)
    have t5 : 0 ≤ p * ev := Int.mul_nonneg q0 (by omega)
    have t6 : p * ev ≤ 255 * 64 := Int.mul_le_mul q1 e2 (by omega) (by omega)
    obtain ⟨k, hk⟩ : ∃ k : Nat, min (p * ev) ((n : Int).tdiv ev * ev) = (k : Int) := ⟨(min (p * ev) ((n : Int).tdiv ev * ev)).toNat, by omega⟩
    obtain ⟨hkn, W, A, g1, g2, g3, g4, g5⟩ := parts_law p0 (by omega) hbit e1 e2 (by omega) hn q0 hk (ah := ah)
    exact parts_ok prev ev ah p0 sa n c es hR hn hm hb p q0 q1 (by omega) (by omega) hc e1 e2 hbit k t5 (by omega) _ (wrap_in (by show (-9223372036854775808 : Int) ≤ _; omega) (by show _ ≤ (9223372036854775807 : Int); omega)) t4 (by omega) hk hkn (hR H).cap W A g1 g2 g3 g4 g5
end Go.Proofs.Ytdcahmifalabnaa.M
