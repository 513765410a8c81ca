import Derived.Test.YtdcahmifalabnaaProg
import Derived.Test.YtdcahmifalabnaaFE4
import Derived.Test.YtdcahmifalabnaaP4c
set_option linter.unusedVariables false
set_option linter.unusedSimpArgs false
namespace Go.Proofs.Ytdcahmifalabnaa.M
open Go Go.Sep Go.Proofs
set_option maxRecDepth 10000
set_option maxHeartbeats 2000000
theorem turns_long {w0 : World} {H : List Chunk} (prev ev : Int) (ah : Bool) (p0 : 0 ≤ prev) (sa : Option Addr) (n c : Nat) (es : List Int) (hR : ∀ H, Rd w0 H sa n c 1 (es.map (.int .u8))) (hn : n = es.length) (hm : n ≤ 140737488351232) (hb : Byte es) (w : Int) (h : 3000 < n) : SC Try.prog w0 6 #[.agg #[.int .u8 prev, .slice sa n c, .int .i64 ev, .bool ah], .int .u16 w] H (fun v H' => v = .bool true ∧ H' = H) := by
 refine SC.enter Try.func6 rfl (Nat.le_of_ble_eq_true rfl) ?_
 refine SW.seq_k ?_
 intro K0 hK0
 refine SW.region _ _ _ _ ?_
 refine RL.st ?_
 refine NV.box rfl (by exact (rfl : _ = [_, _, _, _])) ?_
 intro b2_0
 refine RL.st ?_
 refine NV.p T ?_
 refine RL.nil _ _ _ _ ?_
 refine hK0 _ _ _ ?_
 refine SW.seq_k ?_
 intro K1 hK1
 refine SW.seq_k ?_
 intro K2 hK2
 refine SW.region _ _ _ _ ?_
 refine RL.st ?_
 refine NV.call rfl rfl rfl fun9 rfl rfl (alive) ?_
 rintro _ _ ⟨rfl, e⟩; obtain rfl := e.symm
 refine RL.st ?_
 refine NV.p T ?_
 refine RL.nil _ _ _ _ ?_
 refine hK2 _ _ _ ?_
 refine SW.cond rfl (fun hc0 => ?_) (fun hc0 => ?_)
 ·try simp only [decide_eq_true_eq, decide_eq_false_iff_not, Bool.not_eq_true', Bool.not_eq_false', Int.not_lt, Int.not_le, Int.toNat_natCast] at hc0
  first
   | (exfalso; clear hK2 K2; clear hK1 K1; clear hK0 K0; first | omega | contradiction)
   | (
    refine SW.seq_k ?_
    intro K3 hK3
    refine SW.region _ _ _ _ ?_
    refine RL.st ?_
    refine NV.p T ?_
    refine RL.nil _ _ _ _ ?_
    refine hK3 _ _ _ ?_
    refine SW.ret ?_
    refine retQ.ret (H' := H) (RVs.tmp (by conv => lhs; whnf) RVs.nil) (fun w hw => Sat.sub (by repeat first | exact List.Sublist.refl _ | apply List.Sublist.cons_cons | apply List.Sublist.cons | exact List.sublist_append_right _ _ | refine List.Sublist.trans ?_ (List.sublist_append_right _ _)) hw) ?_
    clear hK3 K3 hK2 K2 hK1 K1 hK0 K0
    first | exact ⟨rfl, rfl⟩ | (refine ⟨boolE ?_, rfl⟩; simp; done) | (refine ⟨boolE ?_, rfl⟩; simp_all; done)
    )
 ·try simp only [decide_eq_true_eq, decide_eq_false_iff_not, Bool.not_eq_true', Bool.not_eq_false', Int.not_lt, Int.not_le, Int.toNat_natCast] at hc0
  first
   | (exfalso; clear hK2 K2; clear hK1 K1; clear hK0 K0; first | omega | contradiction)
   | (
    refine SW.skip ?_
    refine hK1 _ _ _ ?_
    refine SW.seq_k ?_
    intro K4 hK4
    refine SW.seq_k ?_
    intro K5 hK5
    refine SW.region _ _ _ _ ?_
    refine RL.st ?_
    refine NV.p T ?_
    refine RL.st ?_
    refine NV.lv1 T ?_
    refine RL.st ?_
    refine NV.p T ?_
    refine RL.st ?_
    refine NV.p T ?_
    refine RL.nil _ _ _ _ ?_
    refine hK5 _ _ _ ?_
    refine SW.cond rfl (fun hc1 => ?_) (fun hc1 => ?_)
    ·try simp only [decide_eq_true_eq, decide_eq_false_iff_not, Bool.not_eq_true', Bool.not_eq_false', Int.not_lt, Int.not_le, Int.toNat_natCast] at hc1
     first
      | (exfalso; clear hK5 K5; clear hK4 K4; clear hK2 K2; clear hK1 K1; clear hK0 K0; first | omega | contradiction)
      | (
       refine SW.seq_k ?_
       intro K6 hK6
       refine SW.region _ _ _ _ ?_
       refine RL.st ?_
       refine NV.p T ?_
       refine RL.nil _ _ _ _ ?_
       refine hK6 _ _ _ ?_
       refine SW.ret ?_
       refine retQ.ret (H' := H) (RVs.tmp (by conv => lhs; whnf) RVs.nil) (fun w hw => Sat.sub (by repeat first | exact List.Sublist.refl _ | apply List.Sublist.cons_cons | apply List.Sublist.cons | exact List.sublist_append_right _ _ | refine List.Sublist.trans ?_ (List.sublist_append_right _ _)) hw) ?_
       clear hK6 K6 hK5 K5 hK4 K4 hK2 K2 hK1 K1 hK0 K0
       first | exact ⟨rfl, rfl⟩ | (refine ⟨boolE ?_, rfl⟩; simp; done) | (refine ⟨boolE ?_, rfl⟩; simp_all; done)
       )
    ·try simp only [decide_eq_true_eq, decide_eq_false_iff_not, Bool.not_eq_true', Bool.not_eq_false', Int.not_lt, Int.not_le, Int.toNat_natCast] at hc1
     exfalso; clear hK5 K5; clear hK4 K4; clear hK2 K2; clear hK1 K1; clear hK0 K0; first | omega | contradiction
    )
theorem turns_no {w0 : World} {H : List Chunk} (prev ev : Int) (ah : Bool) (p0 : 0 ≤ prev) (sa : Option Addr) (n c : Nat) (es : List Int) (hR : ∀ H, Rd w0 H sa n c 1 (es.map (.int .u8))) (hn : n = es.length) (hm : n ≤ 140737488351232) (hb : Byte es) (w : Int) (hl : n ≤ 3000) (x : List Int) (e : Int) (h1 : putV prev es ev ah = (x, e)) (h : e ≠ 0 ∨ x.length = es.length) : SC Try.prog w0 6 #[.agg #[.int .u8 prev, .slice sa n c, .int .i64 ev, .bool ah], .int .u16 w] H (fun v H' => v = .bool true ∧ H' = H) := by
 refine SC.enter Try.func6 rfl (Nat.le_of_ble_eq_true rfl) ?_
 refine SW.seq_k ?_
 intro K0 hK0
 refine SW.region _ _ _ _ ?_
 refine RL.st ?_
 refine NV.box rfl (by exact (rfl : _ = [_, _, _, _])) ?_
 intro b2_0
 refine RL.st ?_
 refine NV.p T ?_
 refine RL.nil _ _ _ _ ?_
 refine hK0 _ _ _ ?_
 refine SW.seq_k ?_
 intro K1 hK1
 refine SW.seq_k ?_
 intro K2 hK2
 refine SW.region _ _ _ _ ?_
 refine RL.st ?_
 refine NV.call rfl rfl rfl fun9 rfl rfl (alive) ?_
 rintro _ _ ⟨rfl, e⟩; obtain rfl := e.symm
 refine RL.st ?_
 refine NV.p T ?_
 refine RL.nil _ _ _ _ ?_
 refine hK2 _ _ _ ?_
 refine SW.cond rfl (fun hc0 => ?_) (fun hc0 => ?_)
 ·try simp only [decide_eq_true_eq, decide_eq_false_iff_not, Bool.not_eq_true', Bool.not_eq_false', Int.not_lt, Int.not_le, Int.toNat_natCast] at hc0
  first
   | (exfalso; clear hK2 K2; clear hK1 K1; clear hK0 K0; first | omega | contradiction)
   | (
    refine SW.seq_k ?_
    intro K3 hK3
    refine SW.region _ _ _ _ ?_
    refine RL.st ?_
    refine NV.p T ?_
    refine RL.nil _ _ _ _ ?_
    refine hK3 _ _ _ ?_
    refine SW.ret ?_
    refine retQ.ret (H' := H) (RVs.tmp (by conv => lhs; whnf) RVs.nil) (fun w hw => Sat.sub (by repeat first | exact List.Sublist.refl _ | apply List.Sublist.cons_cons | apply List.Sublist.cons | exact List.sublist_append_right _ _ | refine List.Sublist.trans ?_ (List.sublist_append_right _ _)) hw) ?_
    clear hK3 K3 hK2 K2 hK1 K1 hK0 K0
    first | exact ⟨rfl, rfl⟩ | (refine ⟨boolE ?_, rfl⟩; simp; done) | (refine ⟨boolE ?_, rfl⟩; simp_all; done)
    )
 ·try simp only [decide_eq_true_eq, decide_eq_false_iff_not, Bool.not_eq_true', Bool.not_eq_false', Int.not_lt, Int.not_le, Int.toNat_natCast] at hc0
  first
   | (exfalso; clear hK2 K2; clear hK1 K1; clear hK0 K0; first | omega | contradiction)
   | (
    refine SW.skip ?_
    refine hK1 _ _ _ ?_
    refine SW.seq_k ?_
    intro K4 hK4
    refine SW.seq_k ?_
    intro K5 hK5
    refine SW.region _ _ _ _ ?_
    refine RL.st ?_
    refine NV.p T ?_
    refine RL.st ?_
    refine NV.lv1 T ?_
    refine RL.st ?_
    refine NV.p T ?_
    refine RL.st ?_
    refine NV.p T ?_
    refine RL.nil _ _ _ _ ?_
    refine hK5 _ _ _ ?_
    refine SW.cond rfl (fun hc1 => ?_) (fun hc1 => ?_)
    ·try simp only [decide_eq_true_eq, decide_eq_false_iff_not, Bool.not_eq_true', Bool.not_eq_false', Int.not_lt, Int.not_le, Int.toNat_natCast] at hc1
     first
      | (exfalso; clear hK5 K5; clear hK4 K4; clear hK2 K2; clear hK1 K1; clear hK0 K0; first | omega | contradiction)
      | (
       refine SW.seq_k ?_
       intro K6 hK6
       refine SW.region _ _ _ _ ?_
       refine RL.st ?_
       refine NV.p T ?_
       refine RL.nil _ _ _ _ ?_
       refine hK6 _ _ _ ?_
       refine SW.ret ?_
       refine retQ.ret (H' := H) (RVs.tmp (by conv => lhs; whnf) RVs.nil) (fun w hw => Sat.sub (by repeat first | exact List.Sublist.refl _ | apply List.Sublist.cons_cons | apply List.Sublist.cons | exact List.sublist_append_right _ _ | refine List.Sublist.trans ?_ (List.sublist_append_right _ _)) hw) ?_
       clear hK6 K6 hK5 K5 hK4 K4 hK2 K2 hK1 K1 hK0 K0
       first | exact ⟨rfl, rfl⟩ | (refine ⟨boolE ?_, rfl⟩; simp; done) | (refine ⟨boolE ?_, rfl⟩; simp_all; done)
       )
    ·try simp only [decide_eq_true_eq, decide_eq_false_iff_not, Bool.not_eq_true', Bool.not_eq_false', Int.not_lt, Int.not_le, Int.toNat_natCast] at hc1
     first
      | (exfalso; clear hK5 K5; clear hK4 K4; clear hK2 K2; clear hK1 K1; clear hK0 K0; first | omega | contradiction)
      | (
       refine SW.skip ?_
       refine hK4 _ _ _ ?_
       refine SW.seq_k ?_
       intro K7 hK7
       refine SW.region _ _ _ _ ?_
       refine RL.st ?_
       refine NV.p T ?_
       refine RL.st ?_
       refine NV.load_varN T rfl rfl rfl rfl rfl (by repeat first | exact At.head _ _ | assumption | exact At.put (by assumption) _ | apply At.tail | apply At.app) (by exact (rfl : _ = [_, _])) rfl ?_
       refine RL.st ?_
       refine NV.alloc T rfl rfl rfl (by exact (rfl : _ = [_, _])) ?_
       intro b5_1
       refine RL.st ?_
       first
         | refine NV.store_var1 T rfl rfl rfl rfl (by conv => lhs; whnf) rfl (by repeat first | exact At.head _ _ | assumption | exact At.put (by assumption) _ | apply At.tail | apply At.app) rfl (by exact (rfl : _ = [_, _])) ?_
         | refine NV.store_var T rfl rfl rfl (by exact (rfl : _ = [_, _])) rfl rfl (by repeat first | exact At.head _ _ | assumption | exact At.put (by assumption) _ | apply At.tail | apply At.app) (Nat.le_of_ble_eq_true rfl) (by exact (rfl : _ = [_, _])) ?_
         | refine NV.store_elem T rfl rfl rfl rfl (by conv => lhs; whnf) rfl (by repeat first | exact At.head _ _ | assumption | exact At.put (by assumption) _ | apply At.tail | apply At.app) (by omega) ?_
       refine RL.nil _ _ _ _ ?_
       refine hK7 _ _ _ ?_
       refine SW.seq_k ?_
       intro K8 hK8
       refine SW.region _ _ _ _ ?_
       refine RL.st ?_
       refine NV.p T ?_
       refine RL.st ?_
       refine NV.lv1 T ?_
       refine RL.st ?_
       refine NV.p T ?_
       refine RL.st ?_
       refine NV.lv1 T ?_
       refine RL.st ?_
       refine NV.load_varN T rfl rfl rfl rfl rfl (by repeat first | exact At.head _ _ | assumption | exact At.put (by assumption) _ | apply At.tail | apply At.app) (by exact (rfl : _ = [_, _])) rfl ?_
       refine RL.st ?_
       refine NV.call rfl rfl rfl fun11 rfl rfl ((put prev ev ah sa n c es (hR _) hn hm p0 hb).mono (fun v H' h => by rw [h1] at h; dsimp only at h; exact h)) ?_
       rintro _ _ ⟨s1, k1, rfl, e⟩; obtain rfl := e.symm
       refine RL.st ?_
       refine NV.p T ?_
       refine RL.st ?_
       refine NV.p T ?_
       refine RL.st ?_
       refine NV.p T ?_
       refine RL.st ?_
       refine NV.p T ?_
       refine RL.st ?_
       refine NV.p T ?_
       refine RL.nil _ _ _ _ ?_
       refine hK8 _ _ _ ?_
       refine SW.seq_k ?_
       intro K9 hK9
       refine SW.seq_k ?_
       intro K10 hK10
       refine SW.region _ _ _ _ ?_
       refine RL.st ?_
       refine NV.p T ?_
       refine RL.st ?_
       refine NV.p T ?_
       refine RL.st ?_
       refine NV.p T ?_
       refine RL.split 34 rfl (fun hs0 => ?_) (fun hs0 => ?_)
       ·try simp only [decide_eq_true_eq, decide_eq_false_iff_not, Bool.not_eq_true', Bool.not_eq_false', Int.not_lt, Int.not_le, Int.toNat_natCast] at hs0
        first
         | (exfalso; clear hK10 K10; clear hK9 K9; clear hK8 K8; clear hK7 K7; clear hK5 K5; clear hK4 K4; clear hK2 K2; clear hK1 K1; clear hK0 K0; first | omega | contradiction)
         | (
          refine RL.guard_no rfl rfl rfl ?_
          refine RL.guard_no rfl rfl rfl ?_
          refine RL.guard_no rfl rfl rfl ?_
          refine RL.guard_no rfl rfl rfl ?_
          refine RL.guard_no rfl rfl rfl ?_
          refine RL.guard_no rfl rfl rfl ?_
          refine RL.st ?_
          refine NV.p T ?_
          refine RL.nil _ _ _ _ ?_
          refine hK10 _ _ _ ?_
          refine SW.cond_t rfl ?_
          refine SW.seq_k ?_
          intro K11 hK11
          refine SW.region _ _ _ _ ?_
          refine RL.st ?_
          refine NV.p T ?_
          refine RL.nil _ _ _ _ ?_
          refine hK11 _ _ _ ?_
          refine SW.ret ?_
          refine retQ.ret (H' := H) (RVs.tmp (by conv => lhs; whnf) RVs.nil) (fun w hw => Sat.sub (by repeat first | exact List.Sublist.refl _ | apply List.Sublist.cons_cons | apply List.Sublist.cons | exact List.sublist_append_right _ _ | refine List.Sublist.trans ?_ (List.sublist_append_right _ _)) hw) ?_
          clear hK11 K11 hK10 K10 hK9 K9 hK8 K8 hK7 K7 hK5 K5 hK4 K4 hK2 K2 hK1 K1 hK0 K0
          first | exact ⟨rfl, rfl⟩ | (refine ⟨boolE ?_, rfl⟩; simp; done) | (refine ⟨boolE ?_, rfl⟩; simp_all; done)
          )
       ·try simp only [decide_eq_true_eq, decide_eq_false_iff_not, Bool.not_eq_true', Bool.not_eq_false', Int.not_lt, Int.not_le, Int.toNat_natCast] at hs0
        first
         | (exfalso; clear hK10 K10; clear hK9 K9; clear hK8 K8; clear hK7 K7; clear hK5 K5; clear hK4 K4; clear hK2 K2; clear hK1 K1; clear hK0 K0; first | omega | contradiction)
         | (
          refine RL.st ?_
          refine NV.p T ?_
          refine RL.st ?_
          refine NV.p T ?_
          refine RL.st ?_
          refine NV.p T ?_
          refine RL.st ?_
          refine NV.lv1 T ?_
          refine RL.st ?_
          refine NV.p T ?_
          refine RL.st ?_
          refine NV.p T ?_
          refine RL.st ?_
          refine NV.p T ?_
          refine RL.nil _ _ _ _ ?_
          refine hK10 _ _ _ ?_
          refine SW.cond rfl (fun hc2 => ?_) (fun hc2 => ?_)
          ·try simp only [decide_eq_true_eq, decide_eq_false_iff_not, Bool.not_eq_true', Bool.not_eq_false', Int.not_lt, Int.not_le, Int.toNat_natCast] at hc2
           first
            | (exfalso; clear hK10 K10; clear hK9 K9; clear hK8 K8; clear hK7 K7; clear hK5 K5; clear hK4 K4; clear hK2 K2; clear hK1 K1; clear hK0 K0; first | omega | contradiction)
            | (
             refine SW.seq_k ?_
             intro K12 hK12
             refine SW.region _ _ _ _ ?_
             refine RL.st ?_
             refine NV.p T ?_
             refine RL.nil _ _ _ _ ?_
             refine hK12 _ _ _ ?_
             refine SW.ret ?_
             refine retQ.ret (H' := H) (RVs.tmp (by conv => lhs; whnf) RVs.nil) (fun w hw => Sat.sub (by repeat first | exact List.Sublist.refl _ | apply List.Sublist.cons_cons | apply List.Sublist.cons | exact List.sublist_append_right _ _ | refine List.Sublist.trans ?_ (List.sublist_append_right _ _)) hw) ?_
             clear hK12 K12 hK10 K10 hK9 K9 hK8 K8 hK7 K7 hK5 K5 hK4 K4 hK2 K2 hK1 K1 hK0 K0
             first | exact ⟨rfl, rfl⟩ | (refine ⟨boolE ?_, rfl⟩; simp; done) | (refine ⟨boolE ?_, rfl⟩; simp_all; done)
             )
          ·try simp only [decide_eq_true_eq, decide_eq_false_iff_not, Bool.not_eq_true', Bool.not_eq_false', Int.not_lt, Int.not_le, Int.toNat_natCast] at hc2
           exfalso; clear hK10 K10; clear hK9 K9; clear hK8 K8; clear hK7 K7; clear hK5 K5; clear hK4 K4; clear hK2 K2; clear hK1 K1; clear hK0 K0; first | omega | contradiction
          )
       )
    )
theorem turns_ok {w0 : World} {H : List Chunk} (prev ev : Int) (ah : Bool) (p0 : 0 ≤ prev) (sa : Option Addr) (n c : Nat) (es : List Int) (hR : ∀ H, Rd w0 H sa n c 1 (es.map (.int .u8))) (hn : n = es.length) (hm : n ≤ 140737488351232) (hb : Byte es) (w : Int) (w0' : 0 ≤ w) (w1 : w ≤ 65535) (hl : n ≤ 3000) (x : List Int) (hx : x.length ≤ 131072) (h1 : putV prev es ev ah = (x, 0)) (hne : x.length ≠ es.length) (e1 : 1 ≤ ev) (hcn : (plr ev (if ah then 0 else ev) 0 x.length).length + es.length = x.length) (hbx : Bit x) : SC Try.prog w0 6 #[.agg #[.int .u8 prev, .slice sa n c, .int .i64 ev, .bool ah], .int .u16 w] H (fun v H' => v = .bool true ∧ H' = H) := by
 refine SC.enter Try.func6 rfl (Nat.le_of_ble_eq_true rfl) ?_
 refine SW.seq_k ?_
 intro K0 hK0
 refine SW.region _ _ _ _ ?_
 refine RL.st ?_
 refine NV.box rfl (by exact (rfl : _ = [_, _, _, _])) ?_
 intro b2_0
 refine RL.st ?_
 refine NV.p T ?_
 refine RL.nil _ _ _ _ ?_
 refine hK0 _ _ _ ?_
 refine SW.seq_k ?_
 intro K1 hK1
 refine SW.seq_k ?_
 intro K2 hK2
 refine SW.region _ _ _ _ ?_
 refine RL.st ?_
 refine NV.call rfl rfl rfl fun9 rfl rfl (alive) ?_
 rintro _ _ ⟨rfl, e⟩; obtain rfl := e.symm
 refine RL.st ?_
 refine NV.p T ?_
 refine RL.nil _ _ _ _ ?_
 refine hK2 _ _ _ ?_
 refine SW.cond rfl (fun hc0 => ?_) (fun hc0 => ?_)
 ·try simp only [decide_eq_true_eq, decide_eq_false_iff_not, Bool.not_eq_true', Bool.not_eq_false', Int.not_lt, Int.not_le, Int.toNat_natCast] at hc0
  first
   | (exfalso; clear hK2 K2; clear hK1 K1; clear hK0 K0; first | omega | contradiction)
   | (
    refine SW.seq_k ?_
    intro K3 hK3
    refine SW.region _ _ _ _ ?_
    refine RL.st ?_
    refine NV.p T ?_
    refine RL.nil _ _ _ _ ?_
    refine hK3 _ _ _ ?_
    refine SW.ret ?_
    refine retQ.ret (H' := H) (RVs.tmp (by conv => lhs; whnf) RVs.nil) (fun w hw => Sat.sub (by repeat first | exact List.Sublist.refl _ | apply List.Sublist.cons_cons | apply List.Sublist.cons | exact List.sublist_append_right _ _ | refine List.Sublist.trans ?_ (List.sublist_append_right _ _)) hw) ?_
    clear hK3 K3 hK2 K2 hK1 K1 hK0 K0
    first | exact ⟨rfl, rfl⟩ | (refine ⟨boolE ?_, rfl⟩; simp; done) | (refine ⟨boolE ?_, rfl⟩; simp_all; done)
    )
 ·try simp only [decide_eq_true_eq, decide_eq_false_iff_not, Bool.not_eq_true', Bool.not_eq_false', Int.not_lt, Int.not_le, Int.toNat_natCast] at hc0
  first
   | (exfalso; clear hK2 K2; clear hK1 K1; clear hK0 K0; first | omega | contradiction)
   | (
    refine SW.skip ?_
    refine hK1 _ _ _ ?_
    refine SW.seq_k ?_
    intro K4 hK4
    refine SW.seq_k ?_
    intro K5 hK5
    refine SW.region _ _ _ _ ?_
    refine RL.st ?_
    refine NV.p T ?_
    refine RL.st ?_
    refine NV.sat (fun hs => ?_) (fun c hc => by cases hc)
    refine NV.lv1 T ?_
    refine RL.st ?_
    refine NV.p T ?_
    refine RL.st ?_
    refine NV.p T ?_
    refine RL.nil _ _ _ _ ?_
    refine hK5 _ _ _ ?_
    refine SW.cond rfl (fun hc1 => ?_) (fun hc1 => ?_)
    ·try simp only [decide_eq_true_eq, decide_eq_false_iff_not, Bool.not_eq_true', Bool.not_eq_false', Int.not_lt, Int.not_le, Int.toNat_natCast] at hc1
     first
      | (exfalso; clear hK5 K5; clear hK4 K4; clear hK2 K2; clear hK1 K1; clear hK0 K0; first | omega | contradiction)
      | (
       refine SW.seq_k ?_
       intro K6 hK6
       refine SW.region _ _ _ _ ?_
       refine RL.st ?_
       refine NV.p T ?_
       refine RL.nil _ _ _ _ ?_
       refine hK6 _ _ _ ?_
       refine SW.ret ?_
       refine retQ.ret (H' := H) (RVs.tmp (by conv => lhs; whnf) RVs.nil) (fun w hw => Sat.sub (by repeat first | exact List.Sublist.refl _ | apply List.Sublist.cons_cons | apply List.Sublist.cons | exact List.sublist_append_right _ _ | refine List.Sublist.trans ?_ (List.sublist_append_right _ _)) hw) ?_
       clear hK6 K6 hK5 K5 hK4 K4 hK2 K2 hK1 K1 hK0 K0
       first | exact ⟨rfl, rfl⟩ | (refine ⟨boolE ?_, rfl⟩; simp; done) | (refine ⟨boolE ?_, rfl⟩; simp_all; done)
       )
    ·try simp only [decide_eq_true_eq, decide_eq_false_iff_not, Bool.not_eq_true', Bool.not_eq_false', Int.not_lt, Int.not_le, Int.toNat_natCast] at hc1
     first
      | (exfalso; clear hK5 K5; clear hK4 K4; clear hK2 K2; clear hK1 K1; clear hK0 K0; first | omega | contradiction)
      | (
       refine SW.skip ?_
       refine hK4 _ _ _ ?_
       refine SW.seq_k ?_
       intro K7 hK7
       refine SW.region _ _ _ _ ?_
       refine RL.st ?_
       refine NV.p T ?_
       refine RL.st ?_
       refine NV.sat (fun hs => ?_) (fun c hc => by cases hc)
       refine NV.load_varN T rfl rfl rfl rfl rfl (by repeat first | exact At.head _ _ | assumption | exact At.put (by assumption) _ | apply At.tail | apply At.app) (by exact (rfl : _ = [_, _])) rfl ?_
       refine RL.st ?_
       refine NV.alloc T rfl rfl rfl (by exact (rfl : _ = [_, _])) ?_
       intro b5_1
       refine RL.st ?_
       first
         | refine NV.store_var1 T rfl rfl rfl rfl (by conv => lhs; whnf) rfl (by repeat first | exact At.head _ _ | assumption | exact At.put (by assumption) _ | apply At.tail | apply At.app) rfl (by exact (rfl : _ = [_, _])) ?_
         | refine NV.store_var T rfl rfl rfl (by exact (rfl : _ = [_, _])) rfl rfl (by repeat first | exact At.head _ _ | assumption | exact At.put (by assumption) _ | apply At.tail | apply At.app) (Nat.le_of_ble_eq_true rfl) (by exact (rfl : _ = [_, _])) ?_
         | refine NV.store_elem T rfl rfl rfl rfl (by conv => lhs; whnf) rfl (by repeat first | exact At.head _ _ | assumption | exact At.put (by assumption) _ | apply At.tail | apply At.app) (by simp; omega) ?_
       refine RL.nil _ _ _ _ ?_
       refine hK7 _ _ _ ?_
       refine SW.seq_k ?_
       intro K8 hK8
       refine SW.region _ _ _ _ ?_
       refine RL.st ?_
       refine NV.p T ?_
       refine RL.st ?_
       refine NV.sat (fun hs => ?_) (fun c hc => by cases hc)
       refine NV.lv1 T ?_
       refine RL.st ?_
       refine NV.p T ?_
       refine RL.st ?_
       refine NV.sat (fun hs => ?_) (fun c hc => by cases hc)
       refine NV.lv1 T ?_
       refine RL.st ?_
       refine NV.sat (fun hs => ?_) (fun c hc => by cases hc)
       refine NV.load_varN T rfl rfl rfl rfl rfl (by repeat first | exact At.head _ _ | assumption | exact At.put (by assumption) _ | apply At.tail | apply At.app) (by exact (rfl : _ = [_, _])) rfl ?_
       refine RL.st ?_
       refine NV.call rfl rfl rfl fun11 rfl rfl ((put prev ev ah sa n c es (hR _) hn hm p0 hb).mono (fun v H' h => by rw [h1] at h; dsimp only at h; exact h)) ?_
       rintro _ _ ⟨s1, k1, rfl, e⟩; obtain rfl := e.symm
       refine RL.st ?_
       refine NV.p T ?_
       refine RL.st ?_
       refine NV.p T ?_
       refine RL.st ?_
       refine NV.p T ?_
       refine RL.st ?_
       refine NV.p T ?_
       refine RL.st ?_
       refine NV.p T ?_
       refine RL.nil _ _ _ _ ?_
       refine hK8 _ _ _ ?_
       refine SW.seq_k ?_
       intro K9 hK9
       refine SW.seq_k ?_
       intro K10 hK10
       refine SW.region _ _ _ _ ?_
       refine RL.st ?_
       refine NV.p T ?_
       refine RL.st ?_
       refine NV.p T ?_
       refine RL.st ?_
       refine NV.p T ?_
       refine RL.split 34 rfl (fun hs0 => ?_) (fun hs0 => ?_)
       ·try simp only [decide_eq_true_eq, decide_eq_false_iff_not, Bool.not_eq_true', Bool.not_eq_false', Int.not_lt, Int.not_le, Int.toNat_natCast] at hs0
        first
         | (exfalso; clear hK10 K10; clear hK9 K9; clear hK8 K8; clear hK7 K7; clear hK5 K5; clear hK4 K4; clear hK2 K2; clear hK1 K1; clear hK0 K0; first | omega | contradiction)
         | (
          refine RL.guard_no rfl rfl rfl ?_
          refine RL.guard_no rfl rfl rfl ?_
          refine RL.guard_no rfl rfl rfl ?_
          refine RL.guard_no rfl rfl rfl ?_
          refine RL.guard_no rfl rfl rfl ?_
          refine RL.guard_no rfl rfl rfl ?_
          refine RL.st ?_
          refine NV.p T ?_
          refine RL.nil _ _ _ _ ?_
          refine hK10 _ _ _ ?_
          refine SW.cond_t rfl ?_
          refine SW.seq_k ?_
          intro K11 hK11
          refine SW.region _ _ _ _ ?_
          refine RL.st ?_
          refine NV.p T ?_
          refine RL.nil _ _ _ _ ?_
          refine hK11 _ _ _ ?_
          refine SW.ret ?_
          refine retQ.ret (H' := H) (RVs.tmp (by conv => lhs; whnf) RVs.nil) (fun w hw => Sat.sub (by repeat first | exact List.Sublist.refl _ | apply List.Sublist.cons_cons | apply List.Sublist.cons | exact List.sublist_append_right _ _ | refine List.Sublist.trans ?_ (List.sublist_append_right _ _)) hw) ?_
          clear hK11 K11 hK10 K10 hK9 K9 hK8 K8 hK7 K7 hK5 K5 hK4 K4 hK2 K2 hK1 K1 hK0 K0
          first | exact ⟨rfl, rfl⟩ | (refine ⟨boolE ?_, rfl⟩; simp; done) | (refine ⟨boolE ?_, rfl⟩; simp_all; done)
          )
       ·try simp only [decide_eq_true_eq, decide_eq_false_iff_not, Bool.not_eq_true', Bool.not_eq_false', Int.not_lt, Int.not_le, Int.toNat_natCast] at hs0
        first
         | (exfalso; clear hK10 K10; clear hK9 K9; clear hK8 K8; clear hK7 K7; clear hK5 K5; clear hK4 K4; clear hK2 K2; clear hK1 K1; clear hK0 K0; first | omega | contradiction)
         | (
          refine RL.st ?_
          refine NV.p T ?_
          refine RL.st ?_
          refine NV.p T ?_
          refine RL.st ?_
          refine NV.p T ?_
          refine RL.st ?_
          refine NV.sat (fun hs => ?_) (fun c hc => by cases hc)
          refine NV.lv1 T ?_
          refine RL.st ?_
          refine NV.p T ?_
          refine RL.st ?_
          refine NV.p T ?_
          refine RL.st ?_
          refine NV.p T ?_
          refine RL.nil _ _ _ _ ?_
          refine hK10 _ _ _ ?_
          refine SW.cond rfl (fun hc2 => ?_) (fun hc2 => ?_)
          ·try simp only [decide_eq_true_eq, decide_eq_false_iff_not, Bool.not_eq_true', Bool.not_eq_false', Int.not_lt, Int.not_le, Int.toNat_natCast] at hc2
           first
            | (exfalso; clear hK10 K10; clear hK9 K9; clear hK8 K8; clear hK7 K7; clear hK5 K5; clear hK4 K4; clear hK2 K2; clear hK1 K1; clear hK0 K0; first | omega | contradiction)
            | (
             refine SW.seq_k ?_
             intro K12 hK12
             refine SW.region _ _ _ _ ?_
             refine RL.st ?_
             refine NV.p T ?_
             refine RL.nil _ _ _ _ ?_
             refine hK12 _ _ _ ?_
             refine SW.ret ?_
             refine retQ.ret (H' := H) (RVs.tmp (by conv => lhs; whnf) RVs.nil) (fun w hw => Sat.sub (by repeat first | exact List.Sublist.refl _ | apply List.Sublist.cons_cons | apply List.Sublist.cons | exact List.sublist_append_right _ _ | refine List.Sublist.trans ?_ (List.sublist_append_right _ _)) hw) ?_
             clear hK12 K12 hK10 K10 hK9 K9 hK8 K8 hK7 K7 hK5 K5 hK4 K4 hK2 K2 hK1 K1 hK0 K0
             first | exact ⟨rfl, rfl⟩ | (refine ⟨boolE ?_, rfl⟩; simp; done) | (refine ⟨boolE ?_, rfl⟩; simp_all; done)
             )
          ·try simp only [decide_eq_true_eq, decide_eq_false_iff_not, Bool.not_eq_true', Bool.not_eq_false', Int.not_lt, Int.not_le, Int.toNat_natCast] at hc2
           first
            | (exfalso; clear hK10 K10; clear hK9 K9; clear hK8 K8; clear hK7 K7; clear hK5 K5; clear hK4 K4; clear hK2 K2; clear hK1 K1; clear hK0 K0; first | omega | contradiction)
            | (
             refine SW.skip ?_
             refine hK9 _ _ _ ?_
             refine SW.seq_k ?_
             intro K13 hK13
             refine SW.region _ _ _ _ ?_
             refine RL.nilrow 3 1 ?_
             refine RL.st ?_
             refine NV.p T ?_
             refine RL.nil _ _ _ _ ?_
             refine hK13 _ _ _ ?_
             refine SW.seq_k ?_
             intro K14 hK14
             refine SW.region _ _ _ _ ?_
             refine RL.st ?_
             refine NV.p T ?_
             refine RL.nil _ _ _ _ ?_
             refine hK14 _ _ _ ?_
             refine SW.seq_k ?_
             intro K15 hK15
             refine SW.seq_k ?_
             intro K16 hK16
             refine SW.region _ _ _ _ ?_
             refine RL.st ?_
             refine NV.p T ?_
             refine RL.st ?_
             refine NV.p T ?_
             refine RL.st ?_
             refine NV.p T ?_
             refine RL.nil _ _ _ _ ?_
             refine hK16 _ _ _ ?_
             refine SW.block ?_
             refine SW.loopM (fun frB mm fr ds HH => ∃ (k : Nat) (nd left : Int) (sp : Option Addr) (L cp : Nat) (ps : List Int), mm = x.length - k ∧ (k ≤ x.length ∧ (L = ps.length ∧ TI ev ah x.length k ps nd left)) ∧ FrIs [8, 9, 10, 11, 44, 45, 46, 47, 48, 49, 50, 51, 52, 53, 54, 55, 56, 57, 58, 59, 60, 61, 62, 63, 64, 65, 66, 67, 68, 69, 70, 71, 72, 73, 74, 75, 76, 77, 78, 79, 80, 81, 82, 83, 84, 85, 86, 87, 88] frB fr [(44, .int .i64 k), (8, .slice sp L cp), (9, .int .i64 nd)] ∧ ds = [] ∧ HH = (.row sp L cp 3 1 (ps.map (.int .i64)) :: .row s1 x.length k1 5 1 (x.map (.int .u8)) :: .var b5_1 30 [.int .i64 ev, .bool ah] :: .var b2_0 26 [.int .u8 prev, .slice sa n c, .int .i64 ev, .bool ah] :: H)) (n := x.length - 0) ?_ ?_
             ·exact ⟨0, 0, (if ah then 0 else ev), none, 0, 0, [], rfl, ⟨Nat.zero_le _, ⟨rfl, TI.start⟩⟩, (.cons rfl (.cons rfl (.consI rfl (by omega) (.nil (by repeat first | exact Mx.refl | exact Mx.mix | refine Mx.put rfl ?_ | refine Mx.upd rfl ?_ | refine Mx.updl rfl ?_ | refine Mx.fin rfl ?_ | refine Mx.inner rfl ?_ | refine Mx.none ?_))))), rfl, rfl⟩
             ·rintro mm fr ds HH ⟨k, nd, left, sp, L, cp, ps, rfl, ⟨hk, ⟨hL, hI⟩⟩, hFr, rfl, eHH⟩
              obtain rfl := eHH.symm
              obtain ⟨frU, rfl⟩ := hFr.eq
              clear hFr
              have hc' := hI.cnt
              have hn' := hI.n0
              have hkm := hI.km
              obtain ⟨lp, hlp⟩ : ∃ z, ps.getD (((L : Nat) : Int) - 1).toNat 0 = z := ⟨_, rfl⟩
              have hlp2 : lastP ps = lp := by rw [← hlp]; unfold lastP; rw [hL]
              refine SW.seq_k ?_
              intro K17 hK17
              refine SW.region _ _ _ _ ?_
              refine RL.st ?_
              refine NV.p T ?_
              refine RL.nil _ _ _ _ ?_
              refine hK17 _ _ _ ?_
              refine SW.seq_k ?_
              intro K18 hK18
              refine SW.cond rfl (fun hc3 => ?_) (fun hc3 => ?_)
              ·try simp only [decide_eq_true_eq, decide_eq_false_iff_not, Bool.not_eq_true', Bool.not_eq_false', Int.not_lt, Int.not_le, Int.toNat_natCast] at hc3
               first
                | (exfalso; clear hK18 K18; clear hK17 K17; clear hK16 K16; clear hK15 K15; clear hK14 K14; clear hK13 K13; clear hK10 K10; clear hK9 K9; clear hK8 K8; clear hK7 K7; clear hK5 K5; clear hK4 K4; clear hK2 K2; clear hK1 K1; clear hK0 K0; first | omega | contradiction)
                | (
                 refine SW.skip ?_
                 refine hK18 _ _ _ ?_
                 refine SW.seq_k ?_
                 intro K19 hK19
                 refine SW.block ?_
                 refine SW.seq_k ?_
                 intro K20 hK20
                 refine SW.region _ _ _ _ ?_
                 refine RL.st ?_
                 refine NV.p T ?_
                 refine RL.st ?_
                 refine NV.p T ?_
                 refine RL.nil _ _ _ _ ?_
                 refine hK20 _ _ _ ?_
                 refine SW.seq_k ?_
                 intro K21 hK21
                 refine SW.region _ _ _ _ ?_
                 refine RL.st ?_
                 refine NV.p T ?_
                 refine RL.st ?_
                 refine NV.p T ?_
                 refine RL.st ?_
                 refine NV.p T ?_
                 refine RL.split 49 rfl (fun hs1 => ?_) (fun hs1 => ?_)
                 ·try simp only [decide_eq_true_eq, decide_eq_false_iff_not, Bool.not_eq_true', Bool.not_eq_false', Int.not_lt, Int.not_le, Int.toNat_natCast] at hs1
                  first
                   | (exfalso; clear hK21 K21; clear hK20 K20; clear hK19 K19; clear hK18 K18; clear hK17 K17; clear hK16 K16; clear hK15 K15; clear hK14 K14; clear hK13 K13; clear hK10 K10; clear hK9 K9; clear hK8 K8; clear hK7 K7; clear hK5 K5; clear hK4 K4; clear hK2 K2; clear hK1 K1; clear hK0 K0; first | omega | contradiction)
                   | (
                    refine RL.st ?_
                    refine NV.p T ?_
                    refine RL.st ?_
                    refine NV.sat (fun hs => ?_) (fun c hc => by cases hc)
                    refine NV.lv1 T ?_
                    refine RL.st ?_
                    refine NV.p T ?_
                    refine RL.st ?_
                    refine NV.p T ?_
                    refine RL.nil _ _ _ _ ?_
                    refine hK21 _ _ _ ?_
                    refine SW.seq_k ?_
                    intro K22 hK22
                    refine SW.region _ _ _ _ ?_
                    refine RL.st ?_
                    refine NV.p T ?_
                    refine RL.st ?_
                    refine NV.p T ?_
                    refine RL.split 54 rfl (fun hs2 => ?_) (fun hs2 => ?_)
                    ·try simp only [decide_eq_true_eq, decide_eq_false_iff_not, Bool.not_eq_true', Bool.not_eq_false', Int.not_lt, Int.not_le, Int.toNat_natCast] at hs2
                     first
                      | (exfalso; clear hK22 K22; clear hK21 K21; clear hK20 K20; clear hK19 K19; clear hK18 K18; clear hK17 K17; clear hK16 K16; clear hK15 K15; clear hK14 K14; clear hK13 K13; clear hK10 K10; clear hK9 K9; clear hK8 K8; clear hK7 K7; clear hK5 K5; clear hK4 K4; clear hK2 K2; clear hK1 K1; clear hK0 K0; first | omega | contradiction)
                      | (
                       refine RL.guard_no rfl rfl rfl ?_
                       refine RL.guard_no rfl rfl rfl ?_
                       refine RL.guard_no rfl rfl rfl ?_
                       refine RL.guard_no rfl rfl rfl ?_
                       refine RL.guard_no rfl rfl rfl ?_
                       refine RL.guard_no rfl rfl rfl ?_
                       refine RL.guard_no rfl rfl rfl ?_
                       refine RL.guard_no rfl rfl rfl ?_
                       refine RL.guard_no rfl rfl rfl ?_
                       refine RL.guard_no rfl rfl rfl ?_
                       refine RL.guard_no rfl rfl rfl ?_
                       refine RL.guard_no rfl rfl rfl ?_
                       refine RL.guard_no rfl rfl rfl ?_
                       refine RL.guard_no rfl rfl rfl ?_
                       refine RL.guard_no rfl rfl rfl ?_
                       refine RL.guard_no rfl rfl rfl ?_
                       refine RL.guard_no rfl rfl rfl ?_
                       refine RL.guard_no rfl rfl rfl ?_
                       refine RL.guard_no rfl rfl rfl ?_
                       refine RL.guard_no rfl rfl rfl ?_
                       refine RL.guard_no rfl rfl rfl ?_
                       refine RL.guard_no rfl rfl rfl ?_
                       refine RL.guard_no rfl rfl rfl ?_
                       refine RL.guard_no rfl rfl rfl ?_
                       refine RL.guard_no rfl rfl rfl ?_
                       refine RL.guard_no rfl rfl rfl ?_
                       refine RL.st ?_
                       refine NV.p T ?_
                       refine RL.nil _ _ _ _ ?_
                       refine hK22 _ _ _ ?_
                       refine SW.cond_t rfl ?_
                       refine SW.region _ _ _ _ ?_
                       refine RL.st ?_
                       refine NV.p T ?_
                       refine RL.st ?_
                       refine NV.p T ?_
                       refine RL.st ?_
                       refine NV.build1 T rfl (by conv => lhs; whnf) rfl rfl (by conv => lhs; whnf) (by exact (rfl : _ = some [_])) ?_
                       intro b84_2
                       refine RL.st ?_
                       first
                         | refine NV.append1 T rfl rfl rfl rfl rfl rfl rfl rfl rfl rfl (by repeat first | exact At.head _ _ | assumption | exact At.put (by assumption) _ | apply At.tail | apply At.app) (ones rfl) (by first | omega | (unfold maxLen; omega)) (by first | omega | (show (_ + _) * 8 ≤ 140737488355328; omega)) ?_
                         | refine NV.append T rfl rfl rfl rfl rfl rfl rfl rfl rfl rfl (by repeat first | exact At.head _ _ | assumption | exact At.put (by assumption) _ | apply At.tail | apply At.app) (by assumption) (ones rfl) (by first | omega | (unfold maxLen; omega)) (by first | omega | (show (_ + _) * 8 ≤ 140737488355328; omega)) ?_
                       intro a0_ c0_
                       refine RL.st ?_
                       refine NV.p T ?_
                       refine RL.nil _ _ _ _ ?_
                       refine hK19 _ _ _ ?_
                       refine SW.region _ _ _ _ ?_
                       refine RL.st ?_
                       first | refine NV.arith rfl rfl rfl rfl (by omega) (by omega) ?_ | refine NV.p T ?_
                       refine RL.st ?_
                       refine NV.p T ?_
                       refine RL.nil _ _ _ _ ?_
                       first
                         | exact ⟨x.length - (k + 1), (by omega), k + 1, nd, ev, _, _, _, ps ++ [(k : Int)], (by rfl), ⟨by omega, ⟨by simp; omega, hI.stuff e1 (by omega) (by unfold dueP; first | exact .inl ⟨by omega, by assumption⟩ | exact .inr ⟨by omega, by assumption, by rw [hlp2]; omega⟩)⟩⟩, (.cons rfl (.cons rfl (.consI rfl (by omega) (.nil (by repeat first | exact Mx.refl | exact Mx.mix | refine Mx.put rfl ?_ | refine Mx.upd rfl ?_ | refine Mx.updl rfl ?_ | refine Mx.fin rfl ?_ | refine Mx.inner rfl ?_ | refine Mx.none ?_))))), rfl, (by simp)⟩
                         | exact ⟨x.length - (k + 1), (by omega), k + 1, nd + 1, left - 1, _, _, _, ps, (by rfl), ⟨by omega, ⟨by assumption, hI.data e1 (by omega) (by unfold dueP; rw [hlp2]; rintro (⟨g1, g2⟩ | ⟨g1, g2, g3⟩) <;> first | omega | contradiction | (subst g2; contradiction) | (apply g3; constructor <;> omega))⟩⟩, (.cons rfl (.cons rfl (.consI rfl (by omega) (.nil (by repeat first | exact Mx.refl | exact Mx.mix | refine Mx.put rfl ?_ | refine Mx.upd rfl ?_ | refine Mx.updl rfl ?_ | refine Mx.fin rfl ?_ | refine Mx.inner rfl ?_ | refine Mx.none ?_))))), rfl, rfl⟩
                       )
                    ·try simp only [decide_eq_true_eq, decide_eq_false_iff_not, Bool.not_eq_true', Bool.not_eq_false', Int.not_lt, Int.not_le, Int.toNat_natCast] at hs2
                     first
                      | (exfalso; clear hK22 K22; clear hK21 K21; clear hK20 K20; clear hK19 K19; clear hK18 K18; clear hK17 K17; clear hK16 K16; clear hK15 K15; clear hK14 K14; clear hK13 K13; clear hK10 K10; clear hK9 K9; clear hK8 K8; clear hK7 K7; clear hK5 K5; clear hK4 K4; clear hK2 K2; clear hK1 K1; clear hK0 K0; first | omega | contradiction)
                      | (
                       refine RL.st ?_
                       refine NV.p T ?_
                       refine RL.st ?_
                       refine NV.p T ?_
                       refine RL.st ?_
                       refine NV.p T ?_
                       refine RL.split 57 rfl (fun hs3 => ?_) (fun hs3 => ?_)
                       ·try simp only [decide_eq_true_eq, decide_eq_false_iff_not, Bool.not_eq_true', Bool.not_eq_false', Int.not_lt, Int.not_le, Int.toNat_natCast] at hs3
                        first
                         | (exfalso; clear hK22 K22; clear hK21 K21; clear hK20 K20; clear hK19 K19; clear hK18 K18; clear hK17 K17; clear hK16 K16; clear hK15 K15; clear hK14 K14; clear hK13 K13; clear hK10 K10; clear hK9 K9; clear hK8 K8; clear hK7 K7; clear hK5 K5; clear hK4 K4; clear hK2 K2; clear hK1 K1; clear hK0 K0; first | omega | contradiction)
                         | (
                          refine RL.st ?_
                          refine NV.p T ?_
                          refine RL.st ?_
                          refine NV.p T ?_
                          refine RL.st ?_
                          refine NV.sat (fun hs => ?_) (fun c hc => by cases hc)
                          refine NV.lv1 T ?_
                          refine RL.st ?_
                          first | refine NV.rem rfl rfl rfl (by omega) hj ?_ | refine NV.rem rfl rfl rfl (by omega) rfl ?_
                          refine RL.st ?_
                          refine NV.p T ?_
                          refine RL.st ?_
                          refine NV.p T ?_
                          refine RL.st ?_
                          refine NV.p T ?_
                          refine RL.split 64 rfl (fun hs4 => ?_) (fun hs4 => ?_)
                          ·try simp only [decide_eq_true_eq, decide_eq_false_iff_not, Bool.not_eq_true', Bool.not_eq_false', Int.not_lt, Int.not_le, Int.toNat_natCast] at hs4
                           first
                            | (exfalso; clear hK22 K22; clear hK21 K21; clear hK20 K20; clear hK19 K19; clear hK18 K18; clear hK17 K17; clear hK16 K16; clear hK15 K15; clear hK14 K14; clear hK13 K13; clear hK10 K10; clear hK9 K9; clear hK8 K8; clear hK7 K7; clear hK5 K5; clear hK4 K4; clear hK2 K2; clear hK1 K1; clear hK0 K0; first | omega | contradiction)
                            | (
                             refine RL.st ?_
                             refine NV.p T ?_
                             refine RL.st ?_
                             refine NV.p T ?_
                             refine RL.st ?_
                             refine NV.p T ?_
                             refine RL.st ?_
                             refine NV.p T ?_
                             refine RL.split 68 rfl (fun hs5 => ?_) (fun hs5 => ?_)
                             ·try simp only [decide_eq_true_eq, decide_eq_false_iff_not, Bool.not_eq_true', Bool.not_eq_false', Int.not_lt, Int.not_le, Int.toNat_natCast] at hs5
                              first
                               | (exfalso; clear hK22 K22; clear hK21 K21; clear hK20 K20; clear hK19 K19; clear hK18 K18; clear hK17 K17; clear hK16 K16; clear hK15 K15; clear hK14 K14; clear hK13 K13; clear hK10 K10; clear hK9 K9; clear hK8 K8; clear hK7 K7; clear hK5 K5; clear hK4 K4; clear hK2 K2; clear hK1 K1; clear hK0 K0; first | omega | contradiction)
                               | (
                                refine RL.st ?_
                                refine NV.p T ?_
                                refine RL.st ?_
                                refine NV.p T ?_
                                refine RL.st ?_
                                refine NV.p T ?_
                                refine RL.st ?_
                                first | refine NV.arith rfl rfl rfl rfl (by omega) (by omega) ?_ | refine NV.p T ?_
                                refine RL.st ?_
                                refine NV.sat (fun hs => ?_) (fun c hc => by cases hc)
                                first
                                  | refine NV.index_array T rfl rfl rfl rfl rfl (by omega) (by omega) ?_
                                  | refine NV.index_slice T rfl rfl rfl rfl rfl (by first | exact hR _ | exact (Rd.row (by repeat first | exact At.head _ _ | apply At.tail | apply At.app) hs)) (by omega) (by omega) ?_
                                refine RL.st ?_
                                refine NV.sat (fun hs => ?_) (fun c hc => by cases hc)
                                refine NV.load_elem T rfl rfl rfl rfl (by first | exact hR _ | exact (Rd.row (by repeat first | exact At.head _ _ | apply At.tail | apply At.app) hs)) (by first | exact map_as (by omega) hlp | exact map_as (by omega) hq | exact map_get _ _ (by omega)) ?_
                                refine RL.st ?_
                                refine NV.p T ?_
                                refine RL.st ?_
                                first | refine NV.arith rfl rfl rfl rfl (by omega) (by omega) ?_ | refine NV.p T ?_
                                refine RL.st ?_
                                refine NV.p T ?_
                                refine RL.st ?_
                                refine NV.p T ?_
                                refine RL.st ?_
                                refine NV.p T ?_
                                refine RL.st ?_
                                refine NV.p T ?_
                                refine RL.st ?_
                                refine NV.p T ?_
                                refine RL.nil _ _ _ _ ?_
                                refine hK22 _ _ _ ?_
                                refine SW.cond rfl (fun hc4 => ?_) (fun hc4 => ?_)
                                ·try simp only [decide_eq_true_eq, decide_eq_false_iff_not, Bool.not_eq_true', Bool.not_eq_false', Int.not_lt, Int.not_le, Int.toNat_natCast] at hc4
                                 first
                                  | (exfalso; clear hK22 K22; clear hK21 K21; clear hK20 K20; clear hK19 K19; clear hK18 K18; clear hK17 K17; clear hK16 K16; clear hK15 K15; clear hK14 K14; clear hK13 K13; clear hK10 K10; clear hK9 K9; clear hK8 K8; clear hK7 K7; clear hK5 K5; clear hK4 K4; clear hK2 K2; clear hK1 K1; clear hK0 K0; first | omega | contradiction)
                                  | (
                                   refine SW.region _ _ _ _ ?_
                                   refine RL.st ?_
                                   refine NV.p T ?_
                                   refine RL.st ?_
                                   refine NV.p T ?_
                                   refine RL.st ?_
                                   refine NV.build1 T rfl (by conv => lhs; whnf) rfl rfl (by conv => lhs; whnf) (by exact (rfl : _ = some [_])) ?_
                                   intro b84_3
                                   refine RL.st ?_
                                   first
                                     | refine NV.append1 T rfl rfl rfl rfl rfl rfl rfl rfl rfl rfl (by repeat first | exact At.head _ _ | assumption | exact At.put (by assumption) _ | apply At.tail | apply At.app) (ones rfl) (by first | omega | (unfold maxLen; omega)) (by first | omega | (show (_ + _) * 8 ≤ 140737488355328; omega)) ?_
                                     | refine NV.append T rfl rfl rfl rfl rfl rfl rfl rfl rfl rfl (by repeat first | exact At.head _ _ | assumption | exact At.put (by assumption) _ | apply At.tail | apply At.app) (by assumption) (ones rfl) (by first | omega | (unfold maxLen; omega)) (by first | omega | (show (_ + _) * 8 ≤ 140737488355328; omega)) ?_
                                   intro a1_ c1_
                                   refine RL.st ?_
                                   refine NV.p T ?_
                                   refine RL.nil _ _ _ _ ?_
                                   refine hK19 _ _ _ ?_
                                   refine SW.region _ _ _ _ ?_
                                   refine RL.st ?_
                                   first | refine NV.arith rfl rfl rfl rfl (by omega) (by omega) ?_ | refine NV.p T ?_
                                   refine RL.st ?_
                                   refine NV.p T ?_
                                   refine RL.nil _ _ _ _ ?_
                                   first
                                     | exact ⟨x.length - (k + 1), (by omega), k + 1, nd, ev, _, _, _, ps ++ [(k : Int)], (by rfl), ⟨by omega, ⟨by simp; omega, hI.stuff e1 (by omega) (by unfold dueP; first | exact .inl ⟨by omega, by assumption⟩ | exact .inr ⟨by omega, by assumption, by rw [hlp2]; omega⟩)⟩⟩, (.cons rfl (.cons rfl (.consI rfl (by omega) (.nil (by repeat first | exact Mx.refl | exact Mx.mix | refine Mx.put rfl ?_ | refine Mx.upd rfl ?_ | refine Mx.updl rfl ?_ | refine Mx.fin rfl ?_ | refine Mx.inner rfl ?_ | refine Mx.none ?_))))), rfl, (by simp)⟩
                                     | exact ⟨x.length - (k + 1), (by omega), k + 1, nd + 1, left - 1, _, _, _, ps, (by rfl), ⟨by omega, ⟨by assumption, hI.data e1 (by omega) (by unfold dueP; rw [hlp2]; rintro (⟨g1, g2⟩ | ⟨g1, g2, g3⟩) <;> first | omega | contradiction | (subst g2; contradiction) | (apply g3; constructor <;> omega))⟩⟩, (.cons rfl (.cons rfl (.consI rfl (by omega) (.nil (by repeat first | exact Mx.refl | exact Mx.mix | refine Mx.put rfl ?_ | refine Mx.upd rfl ?_ | refine Mx.updl rfl ?_ | refine Mx.fin rfl ?_ | refine Mx.inner rfl ?_ | refine Mx.none ?_))))), rfl, rfl⟩
                                   )
                                ·try simp only [decide_eq_true_eq, decide_eq_false_iff_not, Bool.not_eq_true', Bool.not_eq_false', Int.not_lt, Int.not_le, Int.toNat_natCast] at hc4
                                 first
                                  | (exfalso; clear hK22 K22; clear hK21 K21; clear hK20 K20; clear hK19 K19; clear hK18 K18; clear hK17 K17; clear hK16 K16; clear hK15 K15; clear hK14 K14; clear hK13 K13; clear hK10 K10; clear hK9 K9; clear hK8 K8; clear hK7 K7; clear hK5 K5; clear hK4 K4; clear hK2 K2; clear hK1 K1; clear hK0 K0; first | omega | contradiction)
                                  | (
                                   refine SW.region _ _ _ _ ?_
                                   refine RL.st ?_
                                   refine NV.p T ?_
                                   refine RL.st ?_
                                   first | refine NV.arith rfl rfl rfl rfl (by omega) (by omega) ?_ | refine NV.p T ?_
                                   refine RL.st ?_
                                   refine NV.p T ?_
                                   refine RL.nil _ _ _ _ ?_
                                   refine hK19 _ _ _ ?_
                                   refine SW.region _ _ _ _ ?_
                                   refine RL.st ?_
                                   first | refine NV.arith rfl rfl rfl rfl (by omega) (by omega) ?_ | refine NV.p T ?_
                                   refine RL.st ?_
                                   refine NV.p T ?_
                                   refine RL.nil _ _ _ _ ?_
                                   first
                                     | exact ⟨x.length - (k + 1), (by omega), k + 1, nd, ev, _, _, _, ps ++ [(k : Int)], (by rfl), ⟨by omega, ⟨by simp; omega, hI.stuff e1 (by omega) (by unfold dueP; first | exact .inl ⟨by omega, by assumption⟩ | exact .inr ⟨by omega, by assumption, by rw [hlp2]; omega⟩)⟩⟩, (.cons rfl (.cons rfl (.consI rfl (by omega) (.nil (by repeat first | exact Mx.refl | exact Mx.mix | refine Mx.put rfl ?_ | refine Mx.upd rfl ?_ | refine Mx.updl rfl ?_ | refine Mx.fin rfl ?_ | refine Mx.inner rfl ?_ | refine Mx.none ?_))))), rfl, (by simp)⟩
                                     | exact ⟨x.length - (k + 1), (by omega), k + 1, nd + 1, left - 1, _, _, _, ps, (by rfl), ⟨by omega, ⟨by assumption, hI.data e1 (by omega) (by unfold dueP; rw [hlp2]; rintro (⟨g1, g2⟩ | ⟨g1, g2, g3⟩) <;> first | omega | contradiction | (subst g2; contradiction) | (apply g3; constructor <;> omega))⟩⟩, (.cons rfl (.cons rfl (.consI rfl (by omega) (.nil (by repeat first | exact Mx.refl | exact Mx.mix | refine Mx.put rfl ?_ | refine Mx.upd rfl ?_ | refine Mx.updl rfl ?_ | refine Mx.fin rfl ?_ | refine Mx.inner rfl ?_ | refine Mx.none ?_))))), rfl, rfl⟩
                                   )
                                )
                             ·try simp only [decide_eq_true_eq, decide_eq_false_iff_not, Bool.not_eq_true', Bool.not_eq_false', Int.not_lt, Int.not_le, Int.toNat_natCast] at hs5
                              first
                               | (exfalso; clear hK22 K22; clear hK21 K21; clear hK20 K20; clear hK19 K19; clear hK18 K18; clear hK17 K17; clear hK16 K16; clear hK15 K15; clear hK14 K14; clear hK13 K13; clear hK10 K10; clear hK9 K9; clear hK8 K8; clear hK7 K7; clear hK5 K5; clear hK4 K4; clear hK2 K2; clear hK1 K1; clear hK0 K0; first | omega | contradiction)
                               | (
                                refine RL.guard_no rfl rfl rfl ?_
                                refine RL.guard_no rfl rfl rfl ?_
                                refine RL.guard_no rfl rfl rfl ?_
                                refine RL.guard_no rfl rfl rfl ?_
                                refine RL.guard_no rfl rfl rfl ?_
                                refine RL.guard_no rfl rfl rfl ?_
                                refine RL.guard_no rfl rfl rfl ?_
                                refine RL.guard_no rfl rfl rfl ?_
                                refine RL.guard_no rfl rfl rfl ?_
                                refine RL.st ?_
                                refine NV.p T ?_
                                refine RL.st ?_
                                refine NV.p T ?_
                                refine RL.st ?_
                                refine NV.p T ?_
                                refine RL.st ?_
                                refine NV.p T ?_
                                refine RL.nil _ _ _ _ ?_
                                refine hK22 _ _ _ ?_
                                refine SW.cond_t rfl ?_
                                refine SW.region _ _ _ _ ?_
                                refine RL.st ?_
                                refine NV.p T ?_
                                refine RL.st ?_
                                refine NV.p T ?_
                                refine RL.st ?_
                                refine NV.build1 T rfl (by conv => lhs; whnf) rfl rfl (by conv => lhs; whnf) (by exact (rfl : _ = some [_])) ?_
                                intro b84_4
                                refine RL.st ?_
                                first
                                  | refine NV.append1 T rfl rfl rfl rfl rfl rfl rfl rfl rfl rfl (by repeat first | exact At.head _ _ | assumption | exact At.put (by assumption) _ | apply At.tail | apply At.app) (ones rfl) (by first | omega | (unfold maxLen; omega)) (by first | omega | (show (_ + _) * 8 ≤ 140737488355328; omega)) ?_
                                  | refine NV.append T rfl rfl rfl rfl rfl rfl rfl rfl rfl rfl (by repeat first | exact At.head _ _ | assumption | exact At.put (by assumption) _ | apply At.tail | apply At.app) (by assumption) (ones rfl) (by first | omega | (unfold maxLen; omega)) (by first | omega | (show (_ + _) * 8 ≤ 140737488355328; omega)) ?_
                                intro a2_ c2_
                                refine RL.st ?_
                                refine NV.p T ?_
                                refine RL.nil _ _ _ _ ?_
                                refine hK19 _ _ _ ?_
                                refine SW.region _ _ _ _ ?_
                                refine RL.st ?_
                                first | refine NV.arith rfl rfl rfl rfl (by omega) (by omega) ?_ | refine NV.p T ?_
                                refine RL.st ?_
                                refine NV.p T ?_
                                refine RL.nil _ _ _ _ ?_
                                first
                                  | exact ⟨x.length - (k + 1), (by omega), k + 1, nd, ev, _, _, _, ps ++ [(k : Int)], (by rfl), ⟨by omega, ⟨by simp; omega, hI.stuff e1 (by omega) (by unfold dueP; first | exact .inl ⟨by omega, by assumption⟩ | exact .inr ⟨by omega, by assumption, by rw [hlp2]; omega⟩)⟩⟩, (.cons rfl (.cons rfl (.consI rfl (by omega) (.nil (by repeat first | exact Mx.refl | exact Mx.mix | refine Mx.put rfl ?_ | refine Mx.upd rfl ?_ | refine Mx.updl rfl ?_ | refine Mx.fin rfl ?_ | refine Mx.inner rfl ?_ | refine Mx.none ?_))))), rfl, (by simp)⟩
                                  | exact ⟨x.length - (k + 1), (by omega), k + 1, nd + 1, left - 1, _, _, _, ps, (by rfl), ⟨by omega, ⟨by assumption, hI.data e1 (by omega) (by unfold dueP; rw [hlp2]; rintro (⟨g1, g2⟩ | ⟨g1, g2, g3⟩) <;> first | omega | contradiction | (subst g2; contradiction) | (apply g3; constructor <;> omega))⟩⟩, (.cons rfl (.cons rfl (.consI rfl (by omega) (.nil (by repeat first | exact Mx.refl | exact Mx.mix | refine Mx.put rfl ?_ | refine Mx.upd rfl ?_ | refine Mx.updl rfl ?_ | refine Mx.fin rfl ?_ | refine Mx.inner rfl ?_ | refine Mx.none ?_))))), rfl, rfl⟩
                                )
                             )
                          ·try simp only [decide_eq_true_eq, decide_eq_false_iff_not, Bool.not_eq_true', Bool.not_eq_false', Int.not_lt, Int.not_le, Int.toNat_natCast] at hs4
                           first
                            | (exfalso; clear hK22 K22; clear hK21 K21; clear hK20 K20; clear hK19 K19; clear hK18 K18; clear hK17 K17; clear hK16 K16; clear hK15 K15; clear hK14 K14; clear hK13 K13; clear hK10 K10; clear hK9 K9; clear hK8 K8; clear hK7 K7; clear hK5 K5; clear hK4 K4; clear hK2 K2; clear hK1 K1; clear hK0 K0; first | omega | contradiction)
                            | (
                             refine RL.guard_no rfl rfl rfl ?_
                             refine RL.guard_no rfl rfl rfl ?_
                             refine RL.guard_no rfl rfl rfl ?_
                             refine RL.guard_no rfl rfl rfl ?_
                             refine RL.guard_no rfl rfl rfl ?_
                             refine RL.guard_no rfl rfl rfl ?_
                             refine RL.guard_no rfl rfl rfl ?_
                             refine RL.guard_no rfl rfl rfl ?_
                             refine RL.guard_no rfl rfl rfl ?_
                             refine RL.guard_no rfl rfl rfl ?_
                             refine RL.guard_no rfl rfl rfl ?_
                             refine RL.guard_no rfl rfl rfl ?_
                             refine RL.guard_no rfl rfl rfl ?_
                             refine RL.guard_no rfl rfl rfl ?_
                             refine RL.guard_no rfl rfl rfl ?_
                             refine RL.st ?_
                             refine NV.p T ?_
                             refine RL.st ?_
                             refine NV.p T ?_
                             refine RL.nil _ _ _ _ ?_
                             refine hK22 _ _ _ ?_
                             refine SW.cond_f rfl ?_
                             refine SW.region _ _ _ _ ?_
                             refine RL.st ?_
                             refine NV.p T ?_
                             refine RL.st ?_
                             first | refine NV.arith rfl rfl rfl rfl (by omega) (by omega) ?_ | refine NV.p T ?_
                             refine RL.st ?_
                             refine NV.p T ?_
                             refine RL.nil _ _ _ _ ?_
                             refine hK19 _ _ _ ?_
                             refine SW.region _ _ _ _ ?_
                             refine RL.st ?_
                             first | refine NV.arith rfl rfl rfl rfl (by omega) (by omega) ?_ | refine NV.p T ?_
                             refine RL.st ?_
                             refine NV.p T ?_
                             refine RL.nil _ _ _ _ ?_
                             first
                               | exact ⟨x.length - (k + 1), (by omega), k + 1, nd, ev, _, _, _, ps ++ [(k : Int)], (by rfl), ⟨by omega, ⟨by simp; omega, hI.stuff e1 (by omega) (by unfold dueP; first | exact .inl ⟨by omega, by assumption⟩ | exact .inr ⟨by omega, by assumption, by rw [hlp2]; omega⟩)⟩⟩, (.cons rfl (.cons rfl (.consI rfl (by omega) (.nil (by repeat first | exact Mx.refl | exact Mx.mix | refine Mx.put rfl ?_ | refine Mx.upd rfl ?_ | refine Mx.updl rfl ?_ | refine Mx.fin rfl ?_ | refine Mx.inner rfl ?_ | refine Mx.none ?_))))), rfl, (by simp)⟩
                               | exact ⟨x.length - (k + 1), (by omega), k + 1, nd + 1, left - 1, _, _, _, ps, (by rfl), ⟨by omega, ⟨by assumption, hI.data e1 (by omega) (by unfold dueP; rw [hlp2]; rintro (⟨g1, g2⟩ | ⟨g1, g2, g3⟩) <;> first | omega | contradiction | (subst g2; contradiction) | (apply g3; constructor <;> omega))⟩⟩, (.cons rfl (.cons rfl (.consI rfl (by omega) (.nil (by repeat first | exact Mx.refl | exact Mx.mix | refine Mx.put rfl ?_ | refine Mx.upd rfl ?_ | refine Mx.updl rfl ?_ | refine Mx.fin rfl ?_ | refine Mx.inner rfl ?_ | refine Mx.none ?_))))), rfl, rfl⟩
                             )
                          )
                       ·try simp only [decide_eq_true_eq, decide_eq_false_iff_not, Bool.not_eq_true', Bool.not_eq_false', Int.not_lt, Int.not_le, Int.toNat_natCast] at hs3
                        first
                         | (exfalso; clear hK22 K22; clear hK21 K21; clear hK20 K20; clear hK19 K19; clear hK18 K18; clear hK17 K17; clear hK16 K16; clear hK15 K15; clear hK14 K14; clear hK13 K13; clear hK10 K10; clear hK9 K9; clear hK8 K8; clear hK7 K7; clear hK5 K5; clear hK4 K4; clear hK2 K2; clear hK1 K1; clear hK0 K0; first | omega | contradiction)
                         | (
                          refine RL.guard_no rfl rfl rfl ?_
                          refine RL.guard_no rfl rfl rfl ?_
                          refine RL.guard_no rfl rfl rfl ?_
                          refine RL.guard_no rfl rfl rfl ?_
                          refine RL.guard_no rfl rfl rfl ?_
                          refine RL.st ?_
                          refine NV.p T ?_
                          refine RL.st ?_
                          refine NV.p T ?_
                          refine RL.guard_no rfl rfl rfl ?_
                          refine RL.guard_no rfl rfl rfl ?_
                          refine RL.guard_no rfl rfl rfl ?_
                          refine RL.guard_no rfl rfl rfl ?_
                          refine RL.guard_no rfl rfl rfl ?_
                          refine RL.guard_no rfl rfl rfl ?_
                          refine RL.guard_no rfl rfl rfl ?_
                          refine RL.guard_no rfl rfl rfl ?_
                          refine RL.guard_no rfl rfl rfl ?_
                          refine RL.guard_no rfl rfl rfl ?_
                          refine RL.guard_no rfl rfl rfl ?_
                          refine RL.guard_no rfl rfl rfl ?_
                          refine RL.guard_no rfl rfl rfl ?_
                          refine RL.guard_no rfl rfl rfl ?_
                          refine RL.guard_no rfl rfl rfl ?_
                          refine RL.st ?_
                          refine NV.p T ?_
                          refine RL.st ?_
                          refine NV.p T ?_
                          refine RL.nil _ _ _ _ ?_
                          refine hK22 _ _ _ ?_
                          refine SW.cond_f rfl ?_
                          refine SW.region _ _ _ _ ?_
                          refine RL.st ?_
                          refine NV.p T ?_
                          refine RL.st ?_
                          first | refine NV.arith rfl rfl rfl rfl (by omega) (by omega) ?_ | refine NV.p T ?_
                          refine RL.st ?_
                          refine NV.p T ?_
                          refine RL.nil _ _ _ _ ?_
                          refine hK19 _ _ _ ?_
                          refine SW.region _ _ _ _ ?_
                          refine RL.st ?_
                          first | refine NV.arith rfl rfl rfl rfl (by omega) (by omega) ?_ | refine NV.p T ?_
                          refine RL.st ?_
                          refine NV.p T ?_
                          refine RL.nil _ _ _ _ ?_
                          first
                            | exact ⟨x.length - (k + 1), (by omega), k + 1, nd, ev, _, _, _, ps ++ [(k : Int)], (by rfl), ⟨by omega, ⟨by simp; omega, hI.stuff e1 (by omega) (by unfold dueP; first | exact .inl ⟨by omega, by assumption⟩ | exact .inr ⟨by omega, by assumption, by rw [hlp2]; omega⟩)⟩⟩, (.cons rfl (.cons rfl (.consI rfl (by omega) (.nil (by repeat first | exact Mx.refl | exact Mx.mix | refine Mx.put rfl ?_ | refine Mx.upd rfl ?_ | refine Mx.updl rfl ?_ | refine Mx.fin rfl ?_ | refine Mx.inner rfl ?_ | refine Mx.none ?_))))), rfl, (by simp)⟩
                            | exact ⟨x.length - (k + 1), (by omega), k + 1, nd + 1, left - 1, _, _, _, ps, (by rfl), ⟨by omega, ⟨by assumption, hI.data e1 (by omega) (by unfold dueP; rw [hlp2]; rintro (⟨g1, g2⟩ | ⟨g1, g2, g3⟩) <;> first | omega | contradiction | (subst g2; contradiction) | (apply g3; constructor <;> omega))⟩⟩, (.cons rfl (.cons rfl (.consI rfl (by omega) (.nil (by repeat first | exact Mx.refl | exact Mx.mix | refine Mx.put rfl ?_ | refine Mx.upd rfl ?_ | refine Mx.updl rfl ?_ | refine Mx.fin rfl ?_ | refine Mx.inner rfl ?_ | refine Mx.none ?_))))), rfl, rfl⟩
                          )
                       )
                    )
                 ·try simp only [decide_eq_true_eq, decide_eq_false_iff_not, Bool.not_eq_true', Bool.not_eq_false', Int.not_lt, Int.not_le, Int.toNat_natCast] at hs1
                  first
                   | (exfalso; clear hK21 K21; clear hK20 K20; clear hK19 K19; clear hK18 K18; clear hK17 K17; clear hK16 K16; clear hK15 K15; clear hK14 K14; clear hK13 K13; clear hK10 K10; clear hK9 K9; clear hK8 K8; clear hK7 K7; clear hK5 K5; clear hK4 K4; clear hK2 K2; clear hK1 K1; clear hK0 K0; first | omega | contradiction)
                   | (
                    refine RL.guard_no rfl rfl rfl ?_
                    refine RL.guard_no rfl rfl rfl ?_
                    refine RL.st ?_
                    refine NV.p T ?_
                    refine RL.st ?_
                    refine NV.p T ?_
                    refine RL.nil _ _ _ _ ?_
                    refine hK21 _ _ _ ?_
                    refine SW.seq_k ?_
                    intro K23 hK23
                    refine SW.region _ _ _ _ ?_
                    refine RL.st ?_
                    refine NV.p T ?_
                    refine RL.st ?_
                    refine NV.p T ?_
                    refine RL.st ?_
                    refine NV.p T ?_
                    refine RL.st ?_
                    refine NV.p T ?_
                    refine RL.st ?_
                    refine NV.p T ?_
                    refine RL.split 57 rfl (fun hs6 => ?_) (fun hs6 => ?_)
                    ·try simp only [decide_eq_true_eq, decide_eq_false_iff_not, Bool.not_eq_true', Bool.not_eq_false', Int.not_lt, Int.not_le, Int.toNat_natCast] at hs6
                     first
                      | (exfalso; clear hK23 K23; clear hK21 K21; clear hK20 K20; clear hK19 K19; clear hK18 K18; clear hK17 K17; clear hK16 K16; clear hK15 K15; clear hK14 K14; clear hK13 K13; clear hK10 K10; clear hK9 K9; clear hK8 K8; clear hK7 K7; clear hK5 K5; clear hK4 K4; clear hK2 K2; clear hK1 K1; clear hK0 K0; first | omega | contradiction)
                      | (
                       refine RL.st ?_
                       refine NV.p T ?_
                       refine RL.st ?_
                       refine NV.p T ?_
                       refine RL.st ?_
                       refine NV.sat (fun hs => ?_) (fun c hc => by cases hc)
                       refine NV.lv1 T ?_
                       refine RL.st ?_
                       first | refine NV.rem rfl rfl rfl (by omega) hj ?_ | refine NV.rem rfl rfl rfl (by omega) rfl ?_
                       refine RL.st ?_
                       refine NV.p T ?_
                       refine RL.st ?_
                       refine NV.p T ?_
                       refine RL.st ?_
                       refine NV.p T ?_
                       refine RL.split 64 rfl (fun hs7 => ?_) (fun hs7 => ?_)
                       ·try simp only [decide_eq_true_eq, decide_eq_false_iff_not, Bool.not_eq_true', Bool.not_eq_false', Int.not_lt, Int.not_le, Int.toNat_natCast] at hs7
                        first
                         | (exfalso; clear hK23 K23; clear hK21 K21; clear hK20 K20; clear hK19 K19; clear hK18 K18; clear hK17 K17; clear hK16 K16; clear hK15 K15; clear hK14 K14; clear hK13 K13; clear hK10 K10; clear hK9 K9; clear hK8 K8; clear hK7 K7; clear hK5 K5; clear hK4 K4; clear hK2 K2; clear hK1 K1; clear hK0 K0; first | omega | contradiction)
                         | (
                          refine RL.st ?_
                          refine NV.p T ?_
                          refine RL.st ?_
                          refine NV.p T ?_
                          refine RL.st ?_
                          refine NV.p T ?_
                          refine RL.st ?_
                          refine NV.p T ?_
                          refine RL.split 68 rfl (fun hs8 => ?_) (fun hs8 => ?_)
                          ·try simp only [decide_eq_true_eq, decide_eq_false_iff_not, Bool.not_eq_true', Bool.not_eq_false', Int.not_lt, Int.not_le, Int.toNat_natCast] at hs8
                           first
                            | (exfalso; clear hK23 K23; clear hK21 K21; clear hK20 K20; clear hK19 K19; clear hK18 K18; clear hK17 K17; clear hK16 K16; clear hK15 K15; clear hK14 K14; clear hK13 K13; clear hK10 K10; clear hK9 K9; clear hK8 K8; clear hK7 K7; clear hK5 K5; clear hK4 K4; clear hK2 K2; clear hK1 K1; clear hK0 K0; first | omega | contradiction)
                            | (
                             refine RL.st ?_
                             refine NV.p T ?_
                             refine RL.st ?_
                             refine NV.p T ?_
                             refine RL.st ?_
                             refine NV.p T ?_
                             refine RL.st ?_
                             first | refine NV.arith rfl rfl rfl rfl (by omega) (by omega) ?_ | refine NV.p T ?_
                             refine RL.st ?_
                             refine NV.sat (fun hs => ?_) (fun c hc => by cases hc)
                             first
                               | refine NV.index_array T rfl rfl rfl rfl rfl (by omega) (by omega) ?_
                               | refine NV.index_slice T rfl rfl rfl rfl rfl (by first | exact hR _ | exact (Rd.row (by repeat first | exact At.head _ _ | apply At.tail | apply At.app) hs)) (by omega) (by omega) ?_
                             refine RL.st ?_
                             refine NV.sat (fun hs => ?_) (fun c hc => by cases hc)
                             refine NV.load_elem T rfl rfl rfl rfl (by first | exact hR _ | exact (Rd.row (by repeat first | exact At.head _ _ | apply At.tail | apply At.app) hs)) (by first | exact map_as (by omega) hlp | exact map_as (by omega) hq | exact map_get _ _ (by omega)) ?_
                             refine RL.st ?_
                             refine NV.p T ?_
                             refine RL.st ?_
                             first | refine NV.arith rfl rfl rfl rfl (by omega) (by omega) ?_ | refine NV.p T ?_
                             refine RL.st ?_
                             refine NV.p T ?_
                             refine RL.st ?_
                             refine NV.p T ?_
                             refine RL.st ?_
                             refine NV.p T ?_
                             refine RL.st ?_
                             refine NV.p T ?_
                             refine RL.st ?_
                             refine NV.p T ?_
                             refine RL.nil _ _ _ _ ?_
                             refine hK23 _ _ _ ?_
                             refine SW.cond rfl (fun hc5 => ?_) (fun hc5 => ?_)
                             ·try simp only [decide_eq_true_eq, decide_eq_false_iff_not, Bool.not_eq_true', Bool.not_eq_false', Int.not_lt, Int.not_le, Int.toNat_natCast] at hc5
                              first
                               | (exfalso; clear hK23 K23; clear hK21 K21; clear hK20 K20; clear hK19 K19; clear hK18 K18; clear hK17 K17; clear hK16 K16; clear hK15 K15; clear hK14 K14; clear hK13 K13; clear hK10 K10; clear hK9 K9; clear hK8 K8; clear hK7 K7; clear hK5 K5; clear hK4 K4; clear hK2 K2; clear hK1 K1; clear hK0 K0; first | omega | contradiction)
                               | (
                                refine SW.region _ _ _ _ ?_
                                refine RL.st ?_
                                refine NV.p T ?_
                                refine RL.st ?_
                                refine NV.p T ?_
                                refine RL.st ?_
                                refine NV.build1 T rfl (by conv => lhs; whnf) rfl rfl (by conv => lhs; whnf) (by exact (rfl : _ = some [_])) ?_
                                intro b84_5
                                refine RL.st ?_
                                first
                                  | refine NV.append1 T rfl rfl rfl rfl rfl rfl rfl rfl rfl rfl (by repeat first | exact At.head _ _ | assumption | exact At.put (by assumption) _ | apply At.tail | apply At.app) (ones rfl) (by first | omega | (unfold maxLen; omega)) (by first | omega | (show (_ + _) * 8 ≤ 140737488355328; omega)) ?_
                                  | refine NV.append T rfl rfl rfl rfl rfl rfl rfl rfl rfl rfl (by repeat first | exact At.head _ _ | assumption | exact At.put (by assumption) _ | apply At.tail | apply At.app) (by assumption) (ones rfl) (by first | omega | (unfold maxLen; omega)) (by first | omega | (show (_ + _) * 8 ≤ 140737488355328; omega)) ?_
                                intro a3_ c3_
                                refine RL.st ?_
                                refine NV.p T ?_
                                refine RL.nil _ _ _ _ ?_
                                refine hK19 _ _ _ ?_
                                refine SW.region _ _ _ _ ?_
                                refine RL.st ?_
                                first | refine NV.arith rfl rfl rfl rfl (by omega) (by omega) ?_ | refine NV.p T ?_
                                refine RL.st ?_
                                refine NV.p T ?_
                                refine RL.nil _ _ _ _ ?_
                                first
                                  | exact ⟨x.length - (k + 1), (by omega), k + 1, nd, ev, _, _, _, ps ++ [(k : Int)], (by rfl), ⟨by omega, ⟨by simp; omega, hI.stuff e1 (by omega) (by unfold dueP; first | exact .inl ⟨by omega, by assumption⟩ | exact .inr ⟨by omega, by assumption, by rw [hlp2]; omega⟩)⟩⟩, (.cons rfl (.cons rfl (.consI rfl (by omega) (.nil (by repeat first | exact Mx.refl | exact Mx.mix | refine Mx.put rfl ?_ | refine Mx.upd rfl ?_ | refine Mx.updl rfl ?_ | refine Mx.fin rfl ?_ | refine Mx.inner rfl ?_ | refine Mx.none ?_))))), rfl, (by simp)⟩
                                  | exact ⟨x.length - (k + 1), (by omega), k + 1, nd + 1, left - 1, _, _, _, ps, (by rfl), ⟨by omega, ⟨by assumption, hI.data e1 (by omega) (by unfold dueP; rw [hlp2]; rintro (⟨g1, g2⟩ | ⟨g1, g2, g3⟩) <;> first | omega | contradiction | (subst g2; contradiction) | (apply g3; constructor <;> omega))⟩⟩, (.cons rfl (.cons rfl (.consI rfl (by omega) (.nil (by repeat first | exact Mx.refl | exact Mx.mix | refine Mx.put rfl ?_ | refine Mx.upd rfl ?_ | refine Mx.updl rfl ?_ | refine Mx.fin rfl ?_ | refine Mx.inner rfl ?_ | refine Mx.none ?_))))), rfl, rfl⟩
                                )
                             ·try simp only [decide_eq_true_eq, decide_eq_false_iff_not, Bool.not_eq_true', Bool.not_eq_false', Int.not_lt, Int.not_le, Int.toNat_natCast] at hc5
                              first
                               | (exfalso; clear hK23 K23; clear hK21 K21; clear hK20 K20; clear hK19 K19; clear hK18 K18; clear hK17 K17; clear hK16 K16; clear hK15 K15; clear hK14 K14; clear hK13 K13; clear hK10 K10; clear hK9 K9; clear hK8 K8; clear hK7 K7; clear hK5 K5; clear hK4 K4; clear hK2 K2; clear hK1 K1; clear hK0 K0; first | omega | contradiction)
                               | (
                                refine SW.region _ _ _ _ ?_
                                refine RL.st ?_
                                refine NV.p T ?_
                                refine RL.st ?_
                                first | refine NV.arith rfl rfl rfl rfl (by omega) (by omega) ?_ | refine NV.p T ?_
                                refine RL.st ?_
                                refine NV.p T ?_
                                refine RL.nil _ _ _ _ ?_
                                refine hK19 _ _ _ ?_
                                refine SW.region _ _ _ _ ?_
                                refine RL.st ?_
                                first | refine NV.arith rfl rfl rfl rfl (by omega) (by omega) ?_ | refine NV.p T ?_
                                refine RL.st ?_
                                refine NV.p T ?_
                                refine RL.nil _ _ _ _ ?_
                                first
                                  | exact ⟨x.length - (k + 1), (by omega), k + 1, nd, ev, _, _, _, ps ++ [(k : Int)], (by rfl), ⟨by omega, ⟨by simp; omega, hI.stuff e1 (by omega) (by unfold dueP; first | exact .inl ⟨by omega, by assumption⟩ | exact .inr ⟨by omega, by assumption, by rw [hlp2]; omega⟩)⟩⟩, (.cons rfl (.cons rfl (.consI rfl (by omega) (.nil (by repeat first | exact Mx.refl | exact Mx.mix | refine Mx.put rfl ?_ | refine Mx.upd rfl ?_ | refine Mx.updl rfl ?_ | refine Mx.fin rfl ?_ | refine Mx.inner rfl ?_ | refine Mx.none ?_))))), rfl, (by simp)⟩
                                  | exact ⟨x.length - (k + 1), (by omega), k + 1, nd + 1, left - 1, _, _, _, ps, (by rfl), ⟨by omega, ⟨by assumption, hI.data e1 (by omega) (by unfold dueP; rw [hlp2]; rintro (⟨g1, g2⟩ | ⟨g1, g2, g3⟩) <;> first | omega | contradiction | (subst g2; contradiction) | (apply g3; constructor <;> omega))⟩⟩, (.cons rfl (.cons rfl (.consI rfl (by omega) (.nil (by repeat first | exact Mx.refl | exact Mx.mix | refine Mx.put rfl ?_ | refine Mx.upd rfl ?_ | refine Mx.updl rfl ?_ | refine Mx.fin rfl ?_ | refine Mx.inner rfl ?_ | refine Mx.none ?_))))), rfl, rfl⟩
                                )
                             )
                          ·try simp only [decide_eq_true_eq, decide_eq_false_iff_not, Bool.not_eq_true', Bool.not_eq_false', Int.not_lt, Int.not_le, Int.toNat_natCast] at hs8
                           first
                            | (exfalso; clear hK23 K23; clear hK21 K21; clear hK20 K20; clear hK19 K19; clear hK18 K18; clear hK17 K17; clear hK16 K16; clear hK15 K15; clear hK14 K14; clear hK13 K13; clear hK10 K10; clear hK9 K9; clear hK8 K8; clear hK7 K7; clear hK5 K5; clear hK4 K4; clear hK2 K2; clear hK1 K1; clear hK0 K0; first | omega | contradiction)
                            | (
                             refine RL.guard_no rfl rfl rfl ?_
                             refine RL.guard_no rfl rfl rfl ?_
                             refine RL.guard_no rfl rfl rfl ?_
                             refine RL.guard_no rfl rfl rfl ?_
                             refine RL.guard_no rfl rfl rfl ?_
                             refine RL.guard_no rfl rfl rfl ?_
                             refine RL.guard_no rfl rfl rfl ?_
                             refine RL.guard_no rfl rfl rfl ?_
                             refine RL.guard_no rfl rfl rfl ?_
                             refine RL.st ?_
                             refine NV.p T ?_
                             refine RL.st ?_
                             refine NV.p T ?_
                             refine RL.st ?_
                             refine NV.p T ?_
                             refine RL.st ?_
                             refine NV.p T ?_
                             refine RL.nil _ _ _ _ ?_
                             refine hK23 _ _ _ ?_
                             refine SW.cond_t rfl ?_
                             refine SW.region _ _ _ _ ?_
                             refine RL.st ?_
                             refine NV.p T ?_
                             refine RL.st ?_
                             refine NV.p T ?_
                             refine RL.st ?_
                             refine NV.build1 T rfl (by conv => lhs; whnf) rfl rfl (by conv => lhs; whnf) (by exact (rfl : _ = some [_])) ?_
                             intro b84_6
                             refine RL.st ?_
                             first
                               | refine NV.append1 T rfl rfl rfl rfl rfl rfl rfl rfl rfl rfl (by repeat first | exact At.head _ _ | assumption | exact At.put (by assumption) _ | apply At.tail | apply At.app) (ones rfl) (by first | omega | (unfold maxLen; omega)) (by first | omega | (show (_ + _) * 8 ≤ 140737488355328; omega)) ?_
                               | refine NV.append T rfl rfl rfl rfl rfl rfl rfl rfl rfl rfl (by repeat first | exact At.head _ _ | assumption | exact At.put (by assumption) _ | apply At.tail | apply At.app) (by assumption) (ones rfl) (by first | omega | (unfold maxLen; omega)) (by first | omega | (show (_ + _) * 8 ≤ 140737488355328; omega)) ?_
                             intro a4_ c4_
                             refine RL.st ?_
                             refine NV.p T ?_
                             refine RL.nil _ _ _ _ ?_
                             refine hK19 _ _ _ ?_
                             refine SW.region _ _ _ _ ?_
                             refine RL.st ?_
                             first | refine NV.arith rfl rfl rfl rfl (by omega) (by omega) ?_ | refine NV.p T ?_
                             refine RL.st ?_
                             refine NV.p T ?_
                             refine RL.nil _ _ _ _ ?_
                             first
                               | exact ⟨x.length - (k + 1), (by omega), k + 1, nd, ev, _, _, _, ps ++ [(k : Int)], (by rfl), ⟨by omega, ⟨by simp; omega, hI.stuff e1 (by omega) (by unfold dueP; first | exact .inl ⟨by omega, by assumption⟩ | exact .inr ⟨by omega, by assumption, by rw [hlp2]; omega⟩)⟩⟩, (.cons rfl (.cons rfl (.consI rfl (by omega) (.nil (by repeat first | exact Mx.refl | exact Mx.mix | refine Mx.put rfl ?_ | refine Mx.upd rfl ?_ | refine Mx.updl rfl ?_ | refine Mx.fin rfl ?_ | refine Mx.inner rfl ?_ | refine Mx.none ?_))))), rfl, (by simp)⟩
                               | exact ⟨x.length - (k + 1), (by omega), k + 1, nd + 1, left - 1, _, _, _, ps, (by rfl), ⟨by omega, ⟨by assumption, hI.data e1 (by omega) (by unfold dueP; rw [hlp2]; rintro (⟨g1, g2⟩ | ⟨g1, g2, g3⟩) <;> first | omega | contradiction | (subst g2; contradiction) | (apply g3; constructor <;> omega))⟩⟩, (.cons rfl (.cons rfl (.consI rfl (by omega) (.nil (by repeat first | exact Mx.refl | exact Mx.mix | refine Mx.put rfl ?_ | refine Mx.upd rfl ?_ | refine Mx.updl rfl ?_ | refine Mx.fin rfl ?_ | refine Mx.inner rfl ?_ | refine Mx.none ?_))))), rfl, rfl⟩
                             )
                          )
                       ·try simp only [decide_eq_true_eq, decide_eq_false_iff_not, Bool.not_eq_true', Bool.not_eq_false', Int.not_lt, Int.not_le, Int.toNat_natCast] at hs7
                        first
                         | (exfalso; clear hK23 K23; clear hK21 K21; clear hK20 K20; clear hK19 K19; clear hK18 K18; clear hK17 K17; clear hK16 K16; clear hK15 K15; clear hK14 K14; clear hK13 K13; clear hK10 K10; clear hK9 K9; clear hK8 K8; clear hK7 K7; clear hK5 K5; clear hK4 K4; clear hK2 K2; clear hK1 K1; clear hK0 K0; first | omega | contradiction)
                         | (
                          refine RL.guard_no rfl rfl rfl ?_
                          refine RL.guard_no rfl rfl rfl ?_
                          refine RL.guard_no rfl rfl rfl ?_
                          refine RL.guard_no rfl rfl rfl ?_
                          refine RL.guard_no rfl rfl rfl ?_
                          refine RL.guard_no rfl rfl rfl ?_
                          refine RL.guard_no rfl rfl rfl ?_
                          refine RL.guard_no rfl rfl rfl ?_
                          refine RL.guard_no rfl rfl rfl ?_
                          refine RL.guard_no rfl rfl rfl ?_
                          refine RL.guard_no rfl rfl rfl ?_
                          refine RL.guard_no rfl rfl rfl ?_
                          refine RL.guard_no rfl rfl rfl ?_
                          refine RL.guard_no rfl rfl rfl ?_
                          refine RL.guard_no rfl rfl rfl ?_
                          refine RL.st ?_
                          refine NV.p T ?_
                          refine RL.st ?_
                          refine NV.p T ?_
                          refine RL.nil _ _ _ _ ?_
                          refine hK23 _ _ _ ?_
                          refine SW.cond_f rfl ?_
                          refine SW.region _ _ _ _ ?_
                          refine RL.st ?_
                          refine NV.p T ?_
                          refine RL.st ?_
                          first | refine NV.arith rfl rfl rfl rfl (by omega) (by omega) ?_ | refine NV.p T ?_
                          refine RL.st ?_
                          refine NV.p T ?_
                          refine RL.nil _ _ _ _ ?_
                          refine hK19 _ _ _ ?_
                          refine SW.region _ _ _ _ ?_
                          refine RL.st ?_
                          first | refine NV.arith rfl rfl rfl rfl (by omega) (by omega) ?_ | refine NV.p T ?_
                          refine RL.st ?_
                          refine NV.p T ?_
                          refine RL.nil _ _ _ _ ?_
                          first
                            | exact ⟨x.length - (k + 1), (by omega), k + 1, nd, ev, _, _, _, ps ++ [(k : Int)], (by rfl), ⟨by omega, ⟨by simp; omega, hI.stuff e1 (by omega) (by unfold dueP; first | exact .inl ⟨by omega, by assumption⟩ | exact .inr ⟨by omega, by assumption, by rw [hlp2]; omega⟩)⟩⟩, (.cons rfl (.cons rfl (.consI rfl (by omega) (.nil (by repeat first | exact Mx.refl | exact Mx.mix | refine Mx.put rfl ?_ | refine Mx.upd rfl ?_ | refine Mx.updl rfl ?_ | refine Mx.fin rfl ?_ | refine Mx.inner rfl ?_ | refine Mx.none ?_))))), rfl, (by simp)⟩
                            | exact ⟨x.length - (k + 1), (by omega), k + 1, nd + 1, left - 1, _, _, _, ps, (by rfl), ⟨by omega, ⟨by assumption, hI.data e1 (by omega) (by unfold dueP; rw [hlp2]; rintro (⟨g1, g2⟩ | ⟨g1, g2, g3⟩) <;> first | omega | contradiction | (subst g2; contradiction) | (apply g3; constructor <;> omega))⟩⟩, (.cons rfl (.cons rfl (.consI rfl (by omega) (.nil (by repeat first | exact Mx.refl | exact Mx.mix | refine Mx.put rfl ?_ | refine Mx.upd rfl ?_ | refine Mx.updl rfl ?_ | refine Mx.fin rfl ?_ | refine Mx.inner rfl ?_ | refine Mx.none ?_))))), rfl, rfl⟩
                          )
                       )
                    ·try simp only [decide_eq_true_eq, decide_eq_false_iff_not, Bool.not_eq_true', Bool.not_eq_false', Int.not_lt, Int.not_le, Int.toNat_natCast] at hs6
                     first
                      | (exfalso; clear hK23 K23; clear hK21 K21; clear hK20 K20; clear hK19 K19; clear hK18 K18; clear hK17 K17; clear hK16 K16; clear hK15 K15; clear hK14 K14; clear hK13 K13; clear hK10 K10; clear hK9 K9; clear hK8 K8; clear hK7 K7; clear hK5 K5; clear hK4 K4; clear hK2 K2; clear hK1 K1; clear hK0 K0; first | omega | contradiction)
                      | (
                       refine RL.guard_no rfl rfl rfl ?_
                       refine RL.guard_no rfl rfl rfl ?_
                       refine RL.guard_no rfl rfl rfl ?_
                       refine RL.guard_no rfl rfl rfl ?_
                       refine RL.guard_no rfl rfl rfl ?_
                       refine RL.st ?_
                       refine NV.p T ?_
                       refine RL.st ?_
                       refine NV.p T ?_
                       refine RL.guard_no rfl rfl rfl ?_
                       refine RL.guard_no rfl rfl rfl ?_
                       refine RL.guard_no rfl rfl rfl ?_
                       refine RL.guard_no rfl rfl rfl ?_
                       refine RL.guard_no rfl rfl rfl ?_
                       refine RL.guard_no rfl rfl rfl ?_
                       refine RL.guard_no rfl rfl rfl ?_
                       refine RL.guard_no rfl rfl rfl ?_
                       refine RL.guard_no rfl rfl rfl ?_
                       refine RL.guard_no rfl rfl rfl ?_
                       refine RL.guard_no rfl rfl rfl ?_
                       refine RL.guard_no rfl rfl rfl ?_
                       refine RL.guard_no rfl rfl rfl ?_
                       refine RL.guard_no rfl rfl rfl ?_
                       refine RL.guard_no rfl rfl rfl ?_
                       refine RL.st ?_
                       refine NV.p T ?_
                       refine RL.st ?_
                       refine NV.p T ?_
                       refine RL.nil _ _ _ _ ?_
                       refine hK23 _ _ _ ?_
                       refine SW.cond_f rfl ?_
                       refine SW.region _ _ _ _ ?_
                       refine RL.st ?_
                       refine NV.p T ?_
                       refine RL.st ?_
                       first | refine NV.arith rfl rfl rfl rfl (by omega) (by omega) ?_ | refine NV.p T ?_
                       refine RL.st ?_
                       refine NV.p T ?_
                       refine RL.nil _ _ _ _ ?_
                       refine hK19 _ _ _ ?_
                       refine SW.region _ _ _ _ ?_
                       refine RL.st ?_
                       first | refine NV.arith rfl rfl rfl rfl (by omega) (by omega) ?_ | refine NV.p T ?_
                       refine RL.st ?_
                       refine NV.p T ?_
                       refine RL.nil _ _ _ _ ?_
                       first
                         | exact ⟨x.length - (k + 1), (by omega), k + 1, nd, ev, _, _, _, ps ++ [(k : Int)], (by rfl), ⟨by omega, ⟨by simp; omega, hI.stuff e1 (by omega) (by unfold dueP; first | exact .inl ⟨by omega, by assumption⟩ | exact .inr ⟨by omega, by assumption, by rw [hlp2]; omega⟩)⟩⟩, (.cons rfl (.cons rfl (.consI rfl (by omega) (.nil (by repeat first | exact Mx.refl | exact Mx.mix | refine Mx.put rfl ?_ | refine Mx.upd rfl ?_ | refine Mx.updl rfl ?_ | refine Mx.fin rfl ?_ | refine Mx.inner rfl ?_ | refine Mx.none ?_))))), rfl, (by simp)⟩
                         | exact ⟨x.length - (k + 1), (by omega), k + 1, nd + 1, left - 1, _, _, _, ps, (by rfl), ⟨by omega, ⟨by assumption, hI.data e1 (by omega) (by unfold dueP; rw [hlp2]; rintro (⟨g1, g2⟩ | ⟨g1, g2, g3⟩) <;> first | omega | contradiction | (subst g2; contradiction) | (apply g3; constructor <;> omega))⟩⟩, (.cons rfl (.cons rfl (.consI rfl (by omega) (.nil (by repeat first | exact Mx.refl | exact Mx.mix | refine Mx.put rfl ?_ | refine Mx.upd rfl ?_ | refine Mx.updl rfl ?_ | refine Mx.fin rfl ?_ | refine Mx.inner rfl ?_ | refine Mx.none ?_))))), rfl, rfl⟩
                       )
                    )
                 )
              ·try simp only [decide_eq_true_eq, decide_eq_false_iff_not, Bool.not_eq_true', Bool.not_eq_false', Int.not_lt, Int.not_le, Int.toNat_natCast] at hc3
               first
                | (exfalso; clear hK18 K18; clear hK17 K17; clear hK16 K16; clear hK15 K15; clear hK14 K14; clear hK13 K13; clear hK10 K10; clear hK9 K9; clear hK8 K8; clear hK7 K7; clear hK5 K5; clear hK4 K4; clear hK2 K2; clear hK1 K1; clear hK0 K0; first | omega | contradiction)
                | (
                 refine SW.exit ?_
                 refine hK15 _ _ _ ?_
                 refine SW.seq_k ?_
                 intro K24 hK24
                 refine SW.seq_k ?_
                 intro K25 hK25
                 have hdone := hI.done (by omega)
                 have hL2 : L + es.length = x.length := by rw [hL, hdone]; exact hcn
                 obtain ⟨j, hj⟩ : ∃ j : Nat, w.tmod L = j := ⟨(w.tmod L).toNat, (Int.toNat_of_nonneg (Int.tmod_nonneg _ w0')).symm⟩
                 have hjL : j < L := by have := Int.tmod_lt_of_pos w (show (0 : Int) < L by omega); omega
                 obtain ⟨q, hq⟩ : ∃ q, ps.getD j 0 = q := ⟨_, rfl⟩
                 have hqm : q ∈ plr ev (if ah then 0 else ev) 0 x.length := by rw [← hdone, ← hq, List.getD_eq_getElem?_getD, List.getElem?_eq_getElem (by omega)]; exact List.getElem_mem _
                 have hqr := plr_ge ev _ _ _ _ hqm
                 have hb2 := hbx q.toNat
                 have hxr := xor1 hb2.1 hb2.2
                 refine SW.region _ _ _ _ ?_
                 refine RL.st ?_
                 refine NV.p T ?_
                 refine RL.st ?_
                 refine NV.p T ?_
                 refine RL.st ?_
                 refine NV.p T ?_
                 refine RL.st ?_
                 refine NV.p T ?_
                 refine RL.st ?_
                 refine NV.p T ?_
                 refine RL.st ?_
                 refine NV.sat (fun hs => ?_) (fun c hc => by cases hc)
                 refine NV.lv1 T ?_
                 refine RL.st ?_
                 refine NV.p T ?_
                 refine RL.st ?_
                 first | refine NV.arith rfl rfl rfl rfl (by omega) (by omega) ?_ | refine NV.p T ?_
                 refine RL.st ?_
                 refine NV.p T ?_
                 refine RL.nil _ _ _ _ ?_
                 refine hK25 _ _ _ ?_
                 refine SW.cond rfl (fun hc6 => ?_) (fun hc6 => ?_)
                 ·try simp only [decide_eq_true_eq, decide_eq_false_iff_not, Bool.not_eq_true', Bool.not_eq_false', Int.not_lt, Int.not_le, Int.toNat_natCast] at hc6
                  first
                   | (exfalso; clear hK25 K25; clear hK24 K24; clear hK18 K18; clear hK17 K17; clear hK16 K16; clear hK15 K15; clear hK14 K14; clear hK13 K13; clear hK10 K10; clear hK9 K9; clear hK8 K8; clear hK7 K7; clear hK5 K5; clear hK4 K4; clear hK2 K2; clear hK1 K1; clear hK0 K0; first | omega | contradiction)
                   | (
                    refine SW.seq_k ?_
                    intro K26 hK26
                    refine SW.region _ _ _ _ ?_
                    refine RL.st ?_
                    refine NV.p T ?_
                    refine RL.nil _ _ _ _ ?_
                    refine hK26 _ _ _ ?_
                    refine SW.ret ?_
                    refine retQ.ret (H' := H) (RVs.tmp (by conv => lhs; whnf) RVs.nil) (fun w hw => Sat.sub (by repeat first | exact List.Sublist.refl _ | apply List.Sublist.cons_cons | apply List.Sublist.cons | exact List.sublist_append_right _ _ | refine List.Sublist.trans ?_ (List.sublist_append_right _ _)) hw) ?_
                    clear hK26 K26 hK25 K25 hK24 K24 hK18 K18 hK17 K17 hK16 K16 hK15 K15 hK14 K14 hK13 K13 hK10 K10 hK9 K9 hK8 K8 hK7 K7 hK5 K5 hK4 K4 hK2 K2 hK1 K1 hK0 K0
                    first | exact ⟨rfl, rfl⟩ | (refine ⟨boolE ?_, rfl⟩; simp; done) | (refine ⟨boolE ?_, rfl⟩; simp_all; done)
                    )
                 ·try simp only [decide_eq_true_eq, decide_eq_false_iff_not, Bool.not_eq_true', Bool.not_eq_false', Int.not_lt, Int.not_le, Int.toNat_natCast] at hc6
                  first
                   | (exfalso; clear hK25 K25; clear hK24 K24; clear hK18 K18; clear hK17 K17; clear hK16 K16; clear hK15 K15; clear hK14 K14; clear hK13 K13; clear hK10 K10; clear hK9 K9; clear hK8 K8; clear hK7 K7; clear hK5 K5; clear hK4 K4; clear hK2 K2; clear hK1 K1; clear hK0 K0; first | omega | contradiction)
                   | (
                    refine SW.skip ?_
                    refine hK24 _ _ _ ?_
                    refine SW.seq_k ?_
                    intro K27 hK27
                    refine SW.region _ _ _ _ ?_
                    refine RL.st ?_
                    refine NV.p T ?_
                    refine RL.st ?_
                    refine NV.p T ?_
                    refine RL.st ?_
                    refine NV.convI T rfl rfl rfl rfl (by show (-9223372036854775808 : Int) ≤ _; omega) (by show _ ≤ (9223372036854775807 : Int); omega) ?_
                    refine RL.st ?_
                    refine NV.p T ?_
                    refine RL.st ?_
                    refine NV.p T ?_
                    refine RL.st ?_
                    first | refine NV.rem rfl rfl rfl (by omega) hj ?_ | refine NV.rem rfl rfl rfl (by omega) rfl ?_
                    refine RL.st ?_
                    refine NV.sat (fun hs => ?_) (fun c hc => by cases hc)
                    first
                      | refine NV.index_array T rfl rfl rfl rfl rfl (by omega) (by omega) ?_
                      | refine NV.index_slice T rfl rfl rfl rfl rfl (by first | exact hR _ | exact (Rd.row (by repeat first | exact At.head _ _ | apply At.tail | apply At.app) hs)) (by omega) (by omega) ?_
                    refine RL.st ?_
                    refine NV.sat (fun hs => ?_) (fun c hc => by cases hc)
                    refine NV.load_elem T rfl rfl rfl rfl (by first | exact hR _ | exact (Rd.row (by repeat first | exact At.head _ _ | apply At.tail | apply At.app) hs)) (by first | exact map_as (by omega) hlp | exact map_as (by omega) hq | exact map_get _ _ (by omega)) ?_
                    refine RL.st ?_
                    refine NV.p T ?_
                    refine RL.nil _ _ _ _ ?_
                    refine hK27 _ _ _ ?_
                    refine SW.seq_k ?_
                    intro K28 hK28
                    refine SW.region _ _ _ _ ?_
                    refine RL.st ?_
                    refine NV.p T ?_
                    refine RL.st ?_
                    refine NV.p T ?_
                    refine RL.st ?_
                    refine NV.sat (fun hs => ?_) (fun c hc => by cases hc)
                    first
                      | refine NV.index_array T rfl rfl rfl rfl rfl (by omega) (by omega) ?_
                      | refine NV.index_slice T rfl rfl rfl rfl rfl (by first | exact hR _ | exact (Rd.row (by repeat first | exact At.head _ _ | apply At.tail | apply At.app) hs)) (by omega) (by omega) ?_
                    refine RL.st ?_
                    refine NV.sat (fun hs => ?_) (fun c hc => by cases hc)
                    refine NV.load_elem T rfl rfl rfl rfl (by first | exact hR _ | exact (Rd.row (by repeat first | exact At.head _ _ | apply At.tail | apply At.app) hs)) (by first | exact map_as (by omega) hlp | exact map_as (by omega) hq | exact map_get _ _ (by omega)) ?_
                    refine RL.st ?_
                    refine NV.p T ?_
                    refine RL.st ?_
                    refine NV.sat (fun hs => ?_) (fun c hc => by cases hc)
                    first
                      | refine NV.index_array T rfl rfl rfl rfl rfl (by omega) (by omega) ?_
                      | refine NV.index_slice T rfl rfl rfl rfl rfl (by first | exact hR _ | exact (Rd.row (by repeat first | exact At.head _ _ | apply At.tail | apply At.app) hs)) (by omega) (by omega) ?_
                    refine RL.st ?_
                    first
                      | refine NV.store_var1 T rfl rfl rfl rfl (by conv => lhs; whnf) rfl (by repeat first | exact At.head _ _ | assumption | exact At.put (by assumption) _ | apply At.tail | apply At.app) rfl rfl ?_
                      | refine NV.store_var T rfl rfl rfl (by exact (rfl : _ = [_])) rfl rfl (by repeat first | exact At.head _ _ | assumption | exact At.put (by assumption) _ | apply At.tail | apply At.app) (Nat.le_of_ble_eq_true rfl) rfl ?_
                      | refine NV.store_elem T rfl rfl rfl rfl (by conv => lhs; whnf) rfl (by repeat first | exact At.head _ _ | assumption | exact At.put (by assumption) _ | apply At.tail | apply At.app) (by simp; omega) ?_
                    refine RL.nil _ _ _ _ ?_
                    refine hK28 _ _ _ ?_
                    refine SW.seq_k ?_
                    intro K29 hK29
                    refine SW.region _ _ _ _ ?_
                    refine RL.st ?_
                    refine NV.p T ?_
                    refine RL.st ?_
                    refine NV.sat (fun hs => ?_) (fun c hc => by cases hc)
                    refine NV.lv1 T ?_
                    refine RL.st ?_
                    refine NV.p T ?_
                    refine RL.st ?_
                    refine NV.sat (fun hs => ?_) (fun c hc => by cases hc)
                    refine NV.load_varN T rfl rfl rfl rfl rfl (by repeat first | exact At.head _ _ | assumption | exact At.put (by assumption) _ | apply At.tail | apply At.app) (by exact (rfl : _ = [_, _])) rfl ?_
                    refine RL.st ?_
                    refine NV.sat (fun hs => ?_) (fun c hc => by cases hc)
                    refine NV.call rfl rfl rfl fun15 rfl rfl ((fget prev ev ah s1 x.length k1 (x.set q.toNat (1 - x.getD q.toNat 0)) ((Rd.row (by repeat first | exact At.head _ _ | apply At.tail | apply At.app) hs).as (set_map x q.toNat hxr)) (by simp) (by omega) p0 (Bit.set1 hbx q.toNat)).mono (fun v H' h => by rw [turned p0 hb h1 hqm] at h; dsimp only at h; exact h)) ?_
                    rintro _ _ ⟨_, rfl, a2, n2, c2, rfl, hn2, hR2, G2, e⟩; obtain rfl := e.symm
                    refine RL.st ?_
                    refine NV.p T ?_
                    refine RL.st ?_
                    refine NV.p T ?_
                    refine RL.st ?_
                    refine NV.p T ?_
                    refine RL.st ?_
                    refine NV.p T ?_
                    refine RL.st ?_
                    refine NV.p T ?_
                    refine RL.nil _ _ _ _ ?_
                    refine hK29 _ _ _ ?_
                    refine SW.seq_k ?_
                    intro K30 hK30
                    refine SW.region _ _ _ _ ?_
                    refine RL.st ?_
                    refine NV.p T ?_
                    refine RL.st ?_
                    refine NV.p T ?_
                    refine RL.st ?_
                    refine NV.p T ?_
                    refine RL.split 122 rfl (fun hs9 => ?_) (fun hs9 => ?_)
                    ·try simp only [decide_eq_true_eq, decide_eq_false_iff_not, Bool.not_eq_true', Bool.not_eq_false', Int.not_lt, Int.not_le, Int.toNat_natCast] at hs9
                     first
                      | (exfalso; clear hK30 K30; clear hK29 K29; clear hK28 K28; clear hK27 K27; clear hK25 K25; clear hK24 K24; clear hK18 K18; clear hK17 K17; clear hK16 K16; clear hK15 K15; clear hK14 K14; clear hK13 K13; clear hK10 K10; clear hK9 K9; clear hK8 K8; clear hK7 K7; clear hK5 K5; clear hK4 K4; clear hK2 K2; clear hK1 K1; clear hK0 K0; first | omega | contradiction)
                      | (
                       refine RL.st ?_
                       refine NV.p T ?_
                       refine RL.st ?_
                       refine NV.p T ?_
                       refine RL.st ?_
                       refine NV.p T ?_
                       refine RL.st ?_
                       refine NV.p T ?_
                       refine RL.st ?_
                       refine NV.p T ?_
                       refine RL.nil _ _ _ _ ?_
                       refine hK30 _ _ _ ?_
                       refine SW.ret ?_
                       refine retQ.ret (H' := H) (RVs.tmp (by conv => lhs; whnf) RVs.nil) (fun w hw => Sat.sub (by repeat first | exact List.Sublist.refl _ | apply List.Sublist.cons_cons | apply List.Sublist.cons | exact List.sublist_append_right _ _ | refine List.Sublist.trans ?_ (List.sublist_append_right _ _)) hw) ?_
                       clear hK30 K30 hK29 K29 hK28 K28 hK27 K27 hK25 K25 hK24 K24 hK18 K18 hK17 K17 hK16 K16 hK15 K15 hK14 K14 hK13 K13 hK10 K10 hK9 K9 hK8 K8 hK7 K7 hK5 K5 hK4 K4 hK2 K2 hK1 K1 hK0 K0
                       first | exact ⟨rfl, rfl⟩ | (refine ⟨boolE ?_, rfl⟩; simp; done) | (refine ⟨boolE ?_, rfl⟩; simp_all; done)
                       )
                    ·try simp only [decide_eq_true_eq, decide_eq_false_iff_not, Bool.not_eq_true', Bool.not_eq_false', Int.not_lt, Int.not_le, Int.toNat_natCast] at hs9
                     first
                      | (exfalso; clear hK30 K30; clear hK29 K29; clear hK28 K28; clear hK27 K27; clear hK25 K25; clear hK24 K24; clear hK18 K18; clear hK17 K17; clear hK16 K16; clear hK15 K15; clear hK14 K14; clear hK13 K13; clear hK10 K10; clear hK9 K9; clear hK8 K8; clear hK7 K7; clear hK5 K5; clear hK4 K4; clear hK2 K2; clear hK1 K1; clear hK0 K0; first | omega | contradiction)
                      | (
                       refine RL.guard_no rfl rfl rfl ?_
                       refine RL.guard_no rfl rfl rfl ?_
                       refine RL.guard_no rfl rfl rfl ?_
                       refine RL.st ?_
                       refine NV.p T ?_
                       refine RL.st ?_
                       refine NV.p T ?_
                       refine RL.nil _ _ _ _ ?_
                       refine hK30 _ _ _ ?_
                       refine SW.ret ?_
                       refine retQ.ret (H' := H) (RVs.tmp (by conv => lhs; whnf) RVs.nil) (fun w hw => Sat.sub (by repeat first | exact List.Sublist.refl _ | apply List.Sublist.cons_cons | apply List.Sublist.cons | exact List.sublist_append_right _ _ | refine List.Sublist.trans ?_ (List.sublist_append_right _ _)) hw) ?_
                       clear hK30 K30 hK29 K29 hK28 K28 hK27 K27 hK25 K25 hK24 K24 hK18 K18 hK17 K17 hK16 K16 hK15 K15 hK14 K14 hK13 K13 hK10 K10 hK9 K9 hK8 K8 hK7 K7 hK5 K5 hK4 K4 hK2 K2 hK1 K1 hK0 K0
                       first | exact ⟨rfl, rfl⟩ | (refine ⟨boolE ?_, rfl⟩; simp; done) | (refine ⟨boolE ?_, rfl⟩; simp_all; done)
                       )
                    )
                 )
             )
          )
       )
    )
theorem fixedTurns {w0 : World} {H : List Chunk} (prev ev : Int) (ah : Bool) (p0 : 0 ≤ prev) (sa : Option Addr) (n c : Nat) (es : List Int) (hR : ∀ H, Rd w0 H sa n c 1 (es.map (.int .u8))) (hn : n = es.length) (hm : n ≤ 140737488351232) (hb : Byte es) (w : Int) (w0' : 0 ≤ w) (w1 : w ≤ 65535) : SC Try.prog w0 6 #[.agg #[.int .u8 prev, .slice sa n c, .int .i64 ev, .bool ah], .int .u16 w] H (fun v H' => v = .bool true ∧ H' = H) := by
  by_cases hl : n ≤ 3000
  · have hx := putV_le prev es ev ah
    cases h1 : putV prev es ev ah with
    | mk x e =>
    rw [h1] at hx
    by_cases he : e = 0
    · subst he
      by_cases hne : x.length = es.length
      · exact turns_no prev ev ah p0 sa n c es hR hn hm hb w hl x 0 h1 (.inr hne)
      · obtain ⟨g1, g2, g3, g4, g5, g6, g7⟩ := putV_fit p0 hb h1
        exact turns_ok prev ev ah p0 sa n c es hR hn hm hb w w0' w1 hl x hx h1 hne g5 (turns_count p0 hb h1) (by rw [g3]; exact putS_bit ev es prev _ p0 g4 g7)
    · exact turns_no prev ev ah p0 sa n c es hR hn hm hb w hl x e h1 (.inl he)
  · exact turns_long prev ev ah p0 sa n c es hR hn hm hb w (by omega)
end Go.Proofs.Ytdcahmifalabnaa.M
