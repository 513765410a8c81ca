import Derived.Test.YtdcahmifalabnaaProg
import Derived.Test.YtdcahmifalabnaaFD4
set_option linter.unusedVariables false
set_option linter.unusedSimpArgs false
namespace Go.Proofs.Ytdcahmifalabnaa.M
open Go Go.Sep Go.Proofs
set_option maxRecDepth 10000
set_option maxHeartbeats 2000000
theorem putC {w0 : World} {H : List Chunk} (sa : Option Addr) (n c : Nat) (hR : Rd w0 H sa 5 c 1 (([1, 1, 1, 1, 1] : List Int).map (.int .u8))) : SC Try.prog w0 11 #[.int .u8 1, .slice sa 5 c, .agg #[.int .i64 4, .bool true]] H (fun v H' => ∃ sr cr, v = .tuple #[.slice sr 7 cr, .int .i64 0] ∧ H' = .row sr 7 cr 5 1 (([0, 1, 1, 1, 1, 0, 1] : List Int).map (.int .u8)) :: H) :=
  (put 1 4 true sa 5 c [1, 1, 1, 1, 1] hR rfl (by decide) (by decide) (by unfold Byte; simp)).mono (fun v H' h => by rw [putA] at h; exact h)
theorem alive {w0 : World} {H : List Chunk}  : SC Try.prog w0 9 #[] H (fun v H' => v = .bool true ∧ H' = H) := by
 refine SC.enter Try.func9 rfl (Nat.le_of_ble_eq_true rfl) ?_
 refine SW.seq_k ?_
 intro K0 hK0
 refine SW.region _ _ _ _ ?_
 refine RL.st ?_
 refine NV.p T ?_
 refine RL.nil _ _ _ _ ?_
 refine hK0 _ _ _ ?_
 refine SW.seq_k ?_
 intro K1 hK1
 refine SW.region _ _ _ _ ?_
 refine RL.st ?_
 refine NV.buildSlice T rfl rfl rfl (Nat.le_of_ble_eq_true rfl) (by exact (rfl : _ = some [_, _, _, _, _])) ?_
 intro b6_0
 refine RL.st ?_
 first | refine NV.buildc T rfl (rfl : _ = some [_, _]) ?_ | refine NV.pure T (rfl : _ = some (Value.agg #[_, _])) ?_
 refine RL.st ?_
 refine NV.sat (fun hs => ?_) (fun c hc => by cases hc)
 refine NV.call rfl rfl rfl fun11 rfl rfl (putC _ 5 5 (Rd.row (At.head _ _) hs)) ?_
 rintro _ _ ⟨s1, c1, rfl, e⟩; obtain rfl := e.symm
 refine RL.st ?_
 refine NV.p T ?_
 refine RL.st ?_
 refine NV.p T ?_
 refine RL.st ?_
 refine NV.p T ?_
 refine RL.st ?_
 refine NV.p T ?_
 refine RL.st ?_
 refine NV.p T ?_
 refine RL.nil _ _ _ _ ?_
 refine hK1 _ _ _ ?_
 refine SW.seq_k ?_
 intro K2 hK2
 refine SW.region _ _ _ _ ?_
 refine RL.st ?_
 refine NV.call rfl rfl rfl fun19 rfl rfl ((tally 2 (by omega)).mono (fun v H' h => by rw [tallyA] at h; exact h)) ?_
 rintro _ _ ⟨s2, c2, rfl, e⟩; obtain rfl := e.symm
 refine RL.st ?_
 refine NV.p T ?_
 refine RL.st ?_
 refine NV.p T ?_
 refine RL.st ?_
 refine NV.p T ?_
 refine RL.st ?_
 refine NV.p T ?_
 refine RL.st ?_
 refine NV.p T ?_
 refine RL.nil _ _ _ _ ?_
 refine hK2 _ _ _ ?_
 refine SW.seq_k ?_
 intro K3 hK3
 refine SW.region _ _ _ _ ?_
 refine RL.st ?_
 refine NV.p T ?_
 refine RL.st ?_
 refine NV.p T ?_
 refine RL.st ?_
 refine NV.p T ?_
 refine RL.st ?_
 refine NV.p T ?_
 refine RL.split 18 rfl (fun hs0 => ?_) (fun hs0 => ?_)
 ·try simp only [decide_eq_true_eq, decide_eq_false_iff_not, Bool.not_eq_true', Bool.not_eq_false', Int.not_lt, Int.not_le, Int.toNat_natCast] at hs0
  first
   | (exfalso; clear hK3 K3; clear hK2 K2; clear hK1 K1; clear hK0 K0; first | omega | contradiction)
   | (
    refine RL.st ?_
    refine NV.p T ?_
    refine RL.st ?_
    refine NV.sat (fun hs => ?_) (fun c hc => by cases hc)
    first
      | refine NV.index_array T rfl rfl rfl rfl rfl (by omega) (by omega) ?_
      | refine NV.index_slice T rfl rfl rfl rfl rfl (by first | exact Rd.row (At.head _ _) hs | exact Rd.row (by repeat first | exact At.head _ _ | apply At.tail | apply At.app) hs) (by omega) (by omega) ?_
    refine RL.st ?_
    refine NV.sat (fun hs => ?_) (fun c hc => by cases hc)
    refine NV.load_elem T rfl rfl rfl rfl (by first | exact Rd.row (At.head _ _) hs | exact Rd.row (by repeat first | exact At.head _ _ | apply At.tail | apply At.app) hs) (by exact rfl) ?_
    refine RL.st ?_
    refine NV.p T ?_
    refine RL.st ?_
    refine NV.p T ?_
    refine RL.st ?_
    refine NV.p T ?_
    refine RL.split 24 rfl (fun hs1 => ?_) (fun hs1 => ?_)
    ·try simp only [decide_eq_true_eq, decide_eq_false_iff_not, Bool.not_eq_true', Bool.not_eq_false', Int.not_lt, Int.not_le, Int.toNat_natCast] at hs1
     first
      | (exfalso; clear hK3 K3; clear hK2 K2; clear hK1 K1; clear hK0 K0; first | omega | contradiction)
      | (
       refine RL.st ?_
       refine NV.p T ?_
       refine RL.st ?_
       refine NV.sat (fun hs => ?_) (fun c hc => by cases hc)
       first
         | refine NV.index_array T rfl rfl rfl rfl rfl (by omega) (by omega) ?_
         | refine NV.index_slice T rfl rfl rfl rfl rfl (by first | exact Rd.row (At.head _ _) hs | exact Rd.row (by repeat first | exact At.head _ _ | apply At.tail | apply At.app) hs) (by omega) (by omega) ?_
       refine RL.st ?_
       refine NV.sat (fun hs => ?_) (fun c hc => by cases hc)
       refine NV.load_elem T rfl rfl rfl rfl (by first | exact Rd.row (At.head _ _) hs | exact Rd.row (by repeat first | exact At.head _ _ | apply At.tail | apply At.app) hs) (by exact rfl) ?_
       refine RL.st ?_
       refine NV.p T ?_
       refine RL.st ?_
       refine NV.p T ?_
       refine RL.st ?_
       refine NV.p T ?_
       refine RL.split 30 rfl (fun hs2 => ?_) (fun hs2 => ?_)
       ·try simp only [decide_eq_true_eq, decide_eq_false_iff_not, Bool.not_eq_true', Bool.not_eq_false', Int.not_lt, Int.not_le, Int.toNat_natCast] at hs2
        first
         | (exfalso; clear hK3 K3; clear hK2 K2; clear hK1 K1; clear hK0 K0; first | omega | contradiction)
         | (
          refine RL.st ?_
          refine NV.p T ?_
          refine RL.st ?_
          refine NV.p T ?_
          refine RL.st ?_
          refine NV.p T ?_
          refine RL.st ?_
          refine NV.p T ?_
          refine RL.split 34 rfl (fun hs3 => ?_) (fun hs3 => ?_)
          ·try simp only [decide_eq_true_eq, decide_eq_false_iff_not, Bool.not_eq_true', Bool.not_eq_false', Int.not_lt, Int.not_le, Int.toNat_natCast] at hs3
           first
            | (exfalso; clear hK3 K3; clear hK2 K2; clear hK1 K1; clear hK0 K0; first | omega | contradiction)
            | (
             refine RL.st ?_
             refine NV.p T ?_
             refine RL.st ?_
             refine NV.p T ?_
             refine RL.st ?_
             refine NV.p T ?_
             refine RL.st ?_
             refine NV.p T ?_
             refine RL.st ?_
             refine NV.p T ?_
             refine RL.split 39 rfl (fun hs4 => ?_) (fun hs4 => ?_)
             ·try simp only [decide_eq_true_eq, decide_eq_false_iff_not, Bool.not_eq_true', Bool.not_eq_false', Int.not_lt, Int.not_le, Int.toNat_natCast] at hs4
              first
               | (exfalso; clear hK3 K3; clear hK2 K2; clear hK1 K1; clear hK0 K0; first | omega | contradiction)
               | (
                refine RL.st ?_
                refine NV.p T ?_
                refine RL.st ?_
                refine NV.sat (fun hs => ?_) (fun c hc => by cases hc)
                first
                  | refine NV.index_array T rfl rfl rfl rfl rfl (by omega) (by omega) ?_
                  | refine NV.index_slice T rfl rfl rfl rfl rfl (by first | exact Rd.row (At.head _ _) hs | exact Rd.row (by repeat first | exact At.head _ _ | apply At.tail | apply At.app) hs) (by omega) (by omega) ?_
                refine RL.st ?_
                refine NV.sat (fun hs => ?_) (fun c hc => by cases hc)
                refine NV.load_elem T rfl rfl rfl rfl (by first | exact Rd.row (At.head _ _) hs | exact Rd.row (by repeat first | exact At.head _ _ | apply At.tail | apply At.app) hs) (by exact rfl) ?_
                refine RL.st ?_
                refine NV.p T ?_
                refine RL.st ?_
                refine NV.p T ?_
                refine RL.st ?_
                refine NV.p T ?_
                refine RL.split 45 rfl (fun hs5 => ?_) (fun hs5 => ?_)
                ·try simp only [decide_eq_true_eq, decide_eq_false_iff_not, Bool.not_eq_true', Bool.not_eq_false', Int.not_lt, Int.not_le, Int.toNat_natCast] at hs5
                 first
                  | (exfalso; clear hK3 K3; clear hK2 K2; clear hK1 K1; clear hK0 K0; first | omega | contradiction)
                  | (
                   refine RL.st ?_
                   refine NV.p T ?_
                   refine RL.st ?_
                   refine NV.sat (fun hs => ?_) (fun c hc => by cases hc)
                   first
                     | refine NV.index_array T rfl rfl rfl rfl rfl (by omega) (by omega) ?_
                     | refine NV.index_slice T rfl rfl rfl rfl rfl (by first | exact Rd.row (At.head _ _) hs | exact Rd.row (by repeat first | exact At.head _ _ | apply At.tail | apply At.app) hs) (by omega) (by omega) ?_
                   refine RL.st ?_
                   refine NV.sat (fun hs => ?_) (fun c hc => by cases hc)
                   refine NV.load_elem T rfl rfl rfl rfl (by first | exact Rd.row (At.head _ _) hs | exact Rd.row (by repeat first | exact At.head _ _ | apply At.tail | apply At.app) hs) (by exact rfl) ?_
                   refine RL.st ?_
                   refine NV.p T ?_
                   refine RL.st ?_
                   refine NV.p T ?_
                   refine RL.st ?_
                   refine NV.p T ?_
                   refine RL.split 51 rfl (fun hs6 => ?_) (fun hs6 => ?_)
                   ·try simp only [decide_eq_true_eq, decide_eq_false_iff_not, Bool.not_eq_true', Bool.not_eq_false', Int.not_lt, Int.not_le, Int.toNat_natCast] at hs6
                    first
                     | (exfalso; clear hK3 K3; clear hK2 K2; clear hK1 K1; clear hK0 K0; first | omega | contradiction)
                     | (
                      refine RL.st ?_
                      refine NV.p T ?_
                      refine RL.st ?_
                      refine NV.sat (fun hs => ?_) (fun c hc => by cases hc)
                      first
                        | refine NV.index_array T rfl rfl rfl rfl rfl (by omega) (by omega) ?_
                        | refine NV.index_slice T rfl rfl rfl rfl rfl (by first | exact Rd.row (At.head _ _) hs | exact Rd.row (by repeat first | exact At.head _ _ | apply At.tail | apply At.app) hs) (by omega) (by omega) ?_
                      refine RL.st ?_
                      refine NV.sat (fun hs => ?_) (fun c hc => by cases hc)
                      refine NV.load_elem T rfl rfl rfl rfl (by first | exact Rd.row (At.head _ _) hs | exact Rd.row (by repeat first | exact At.head _ _ | apply At.tail | apply At.app) hs) (by exact rfl) ?_
                      refine RL.st ?_
                      refine NV.p T ?_
                      refine RL.st ?_
                      refine NV.p T ?_
                      refine RL.st ?_
                      refine NV.p T ?_
                      refine RL.split 57 rfl (fun hs7 => ?_) (fun hs7 => ?_)
                      ·try simp only [decide_eq_true_eq, decide_eq_false_iff_not, Bool.not_eq_true', Bool.not_eq_false', Int.not_lt, Int.not_le, Int.toNat_natCast] at hs7
                       first
                        | (exfalso; clear hK3 K3; clear hK2 K2; clear hK1 K1; clear hK0 K0; first | omega | contradiction)
                        | (
                         refine RL.st ?_
                         refine NV.p T ?_
                         refine RL.st ?_
                         refine NV.sat (fun hs => ?_) (fun c hc => by cases hc)
                         first
                           | refine NV.index_array T rfl rfl rfl rfl rfl (by omega) (by omega) ?_
                           | refine NV.index_slice T rfl rfl rfl rfl rfl (by first | exact Rd.row (At.head _ _) hs | exact Rd.row (by repeat first | exact At.head _ _ | apply At.tail | apply At.app) hs) (by omega) (by omega) ?_
                         refine RL.st ?_
                         refine NV.sat (fun hs => ?_) (fun c hc => by cases hc)
                         refine NV.load_elem T rfl rfl rfl rfl (by first | exact Rd.row (At.head _ _) hs | exact Rd.row (by repeat first | exact At.head _ _ | apply At.tail | apply At.app) hs) (by exact rfl) ?_
                         refine RL.st ?_
                         refine NV.p T ?_
                         refine RL.st ?_
                         refine NV.p T ?_
                         refine RL.st ?_
                         refine NV.p T ?_
                         refine RL.split 63 rfl (fun hs8 => ?_) (fun hs8 => ?_)
                         ·try simp only [decide_eq_true_eq, decide_eq_false_iff_not, Bool.not_eq_true', Bool.not_eq_false', Int.not_lt, Int.not_le, Int.toNat_natCast] at hs8
                          first
                           | (exfalso; clear hK3 K3; clear hK2 K2; clear hK1 K1; clear hK0 K0; first | omega | contradiction)
                           | (
                            refine RL.st ?_
                            refine NV.p T ?_
                            refine RL.st ?_
                            refine NV.p T ?_
                            refine RL.st ?_
                            refine NV.p T ?_
                            refine RL.st ?_
                            refine NV.p T ?_
                            refine RL.nil _ _ _ _ ?_
                            refine hK3 _ _ _ ?_
                            refine SW.ret ?_
                            refine retQ.ret (H' := H) (RVs.tmp (by conv => lhs; whnf) RVs.nil) (fun w hw => Sat.sub (by repeat first | exact List.Sublist.refl _ | apply List.Sublist.cons_cons | apply List.Sublist.cons | exact List.sublist_append_right _ _ | refine List.Sublist.trans ?_ (List.sublist_append_right _ _)) hw) ?_
                            clear hK3 K3 hK2 K2 hK1 K1 hK0 K0
                            exact ⟨rfl, rfl⟩
                            )
                         ·try simp only [decide_eq_true_eq, decide_eq_false_iff_not, Bool.not_eq_true', Bool.not_eq_false', Int.not_lt, Int.not_le, Int.toNat_natCast] at hs8
                          first
                           | (exfalso; clear hK3 K3; clear hK2 K2; clear hK1 K1; clear hK0 K0; first | omega | contradiction)
                           | (
                            refine RL.guard_no rfl rfl rfl ?_
                            refine RL.guard_no rfl rfl rfl ?_
                            refine RL.st ?_
                            refine NV.p T ?_
                            refine RL.st ?_
                            refine NV.p T ?_
                            refine RL.nil _ _ _ _ ?_
                            refine hK3 _ _ _ ?_
                            refine SW.ret ?_
                            refine retQ.ret (H' := H) (RVs.tmp (by conv => lhs; whnf) RVs.nil) (fun w hw => Sat.sub (by repeat first | exact List.Sublist.refl _ | apply List.Sublist.cons_cons | apply List.Sublist.cons | exact List.sublist_append_right _ _ | refine List.Sublist.trans ?_ (List.sublist_append_right _ _)) hw) ?_
                            clear hK3 K3 hK2 K2 hK1 K1 hK0 K0
                            exact ⟨rfl, rfl⟩
                            )
                         )
                      ·try simp only [decide_eq_true_eq, decide_eq_false_iff_not, Bool.not_eq_true', Bool.not_eq_false', Int.not_lt, Int.not_le, Int.toNat_natCast] at hs7
                       first
                        | (exfalso; clear hK3 K3; clear hK2 K2; clear hK1 K1; clear hK0 K0; first | omega | contradiction)
                        | (
                         refine RL.guard_no rfl rfl rfl ?_
                         refine RL.guard_no rfl rfl rfl ?_
                         refine RL.guard_no rfl rfl rfl ?_
                         refine RL.guard_no rfl rfl rfl ?_
                         refine RL.st ?_
                         refine NV.p T ?_
                         refine RL.st ?_
                         refine NV.p T ?_
                         refine RL.guard_no rfl rfl rfl ?_
                         refine RL.guard_no rfl rfl rfl ?_
                         refine RL.st ?_
                         refine NV.p T ?_
                         refine RL.st ?_
                         refine NV.p T ?_
                         refine RL.nil _ _ _ _ ?_
                         refine hK3 _ _ _ ?_
                         refine SW.ret ?_
                         refine retQ.ret (H' := H) (RVs.tmp (by conv => lhs; whnf) RVs.nil) (fun w hw => Sat.sub (by repeat first | exact List.Sublist.refl _ | apply List.Sublist.cons_cons | apply List.Sublist.cons | exact List.sublist_append_right _ _ | refine List.Sublist.trans ?_ (List.sublist_append_right _ _)) hw) ?_
                         clear hK3 K3 hK2 K2 hK1 K1 hK0 K0
                         exact ⟨rfl, rfl⟩
                         )
                      )
                   ·try simp only [decide_eq_true_eq, decide_eq_false_iff_not, Bool.not_eq_true', Bool.not_eq_false', Int.not_lt, Int.not_le, Int.toNat_natCast] at hs6
                    first
                     | (exfalso; clear hK3 K3; clear hK2 K2; clear hK1 K1; clear hK0 K0; first | omega | contradiction)
                     | (
                      refine RL.guard_no rfl rfl rfl ?_
                      refine RL.guard_no rfl rfl rfl ?_
                      refine RL.guard_no rfl rfl rfl ?_
                      refine RL.guard_no rfl rfl rfl ?_
                      refine RL.st ?_
                      refine NV.p T ?_
                      refine RL.st ?_
                      refine NV.p T ?_
                      refine RL.guard_no rfl rfl rfl ?_
                      refine RL.guard_no rfl rfl rfl ?_
                      refine RL.guard_no rfl rfl rfl ?_
                      refine RL.guard_no rfl rfl rfl ?_
                      refine RL.st ?_
                      refine NV.p T ?_
                      refine RL.st ?_
                      refine NV.p T ?_
                      refine RL.guard_no rfl rfl rfl ?_
                      refine RL.guard_no rfl rfl rfl ?_
                      refine RL.st ?_
                      refine NV.p T ?_
                      refine RL.st ?_
                      refine NV.p T ?_
                      refine RL.nil _ _ _ _ ?_
                      refine hK3 _ _ _ ?_
                      refine SW.ret ?_
                      refine retQ.ret (H' := H) (RVs.tmp (by conv => lhs; whnf) RVs.nil) (fun w hw => Sat.sub (by repeat first | exact List.Sublist.refl _ | apply List.Sublist.cons_cons | apply List.Sublist.cons | exact List.sublist_append_right _ _ | refine List.Sublist.trans ?_ (List.sublist_append_right _ _)) hw) ?_
                      clear hK3 K3 hK2 K2 hK1 K1 hK0 K0
                      exact ⟨rfl, rfl⟩
                      )
                   )
                ·try simp only [decide_eq_true_eq, decide_eq_false_iff_not, Bool.not_eq_true', Bool.not_eq_false', Int.not_lt, Int.not_le, Int.toNat_natCast] at hs5
                 first
                  | (exfalso; clear hK3 K3; clear hK2 K2; clear hK1 K1; clear hK0 K0; first | omega | contradiction)
                  | (
                   refine RL.guard_no rfl rfl rfl ?_
                   refine RL.guard_no rfl rfl rfl ?_
                   refine RL.guard_no rfl rfl rfl ?_
                   refine RL.guard_no rfl rfl rfl ?_
                   refine RL.st ?_
                   refine NV.p T ?_
                   refine RL.st ?_
                   refine NV.p T ?_
                   refine RL.guard_no rfl rfl rfl ?_
                   refine RL.guard_no rfl rfl rfl ?_
                   refine RL.guard_no rfl rfl rfl ?_
                   refine RL.guard_no rfl rfl rfl ?_
                   refine RL.st ?_
                   refine NV.p T ?_
                   refine RL.st ?_
                   refine NV.p T ?_
                   refine RL.guard_no rfl rfl rfl ?_
                   refine RL.guard_no rfl rfl rfl ?_
                   refine RL.guard_no rfl rfl rfl ?_
                   refine RL.guard_no rfl rfl rfl ?_
                   refine RL.st ?_
                   refine NV.p T ?_
                   refine RL.st ?_
                   refine NV.p T ?_
                   refine RL.guard_no rfl rfl rfl ?_
                   refine RL.guard_no rfl rfl rfl ?_
                   refine RL.st ?_
                   refine NV.p T ?_
                   refine RL.st ?_
                   refine NV.p T ?_
                   refine RL.nil _ _ _ _ ?_
                   refine hK3 _ _ _ ?_
                   refine SW.ret ?_
                   refine retQ.ret (H' := H) (RVs.tmp (by conv => lhs; whnf) RVs.nil) (fun w hw => Sat.sub (by repeat first | exact List.Sublist.refl _ | apply List.Sublist.cons_cons | apply List.Sublist.cons | exact List.sublist_append_right _ _ | refine List.Sublist.trans ?_ (List.sublist_append_right _ _)) hw) ?_
                   clear hK3 K3 hK2 K2 hK1 K1 hK0 K0
                   exact ⟨rfl, rfl⟩
                   )
                )
             ·try simp only [decide_eq_true_eq, decide_eq_false_iff_not, Bool.not_eq_true', Bool.not_eq_false', Int.not_lt, Int.not_le, Int.toNat_natCast] at hs4
              first
               | (exfalso; clear hK3 K3; clear hK2 K2; clear hK1 K1; clear hK0 K0; first | omega | contradiction)
               | (
                refine RL.guard_no rfl rfl rfl ?_
                refine RL.guard_no rfl rfl rfl ?_
                refine RL.guard_no rfl rfl rfl ?_
                refine RL.guard_no rfl rfl rfl ?_
                refine RL.st ?_
                refine NV.p T ?_
                refine RL.st ?_
                refine NV.p T ?_
                refine RL.guard_no rfl rfl rfl ?_
                refine RL.guard_no rfl rfl rfl ?_
                refine RL.guard_no rfl rfl rfl ?_
                refine RL.guard_no rfl rfl rfl ?_
                refine RL.st ?_
                refine NV.p T ?_
                refine RL.st ?_
                refine NV.p T ?_
                refine RL.guard_no rfl rfl rfl ?_
                refine RL.guard_no rfl rfl rfl ?_
                refine RL.guard_no rfl rfl rfl ?_
                refine RL.guard_no rfl rfl rfl ?_
                refine RL.st ?_
                refine NV.p T ?_
                refine RL.st ?_
                refine NV.p T ?_
                refine RL.guard_no rfl rfl rfl ?_
                refine RL.guard_no rfl rfl rfl ?_
                refine RL.guard_no rfl rfl rfl ?_
                refine RL.guard_no rfl rfl rfl ?_
                refine RL.st ?_
                refine NV.p T ?_
                refine RL.st ?_
                refine NV.p T ?_
                refine RL.guard_no rfl rfl rfl ?_
                refine RL.guard_no rfl rfl rfl ?_
                refine RL.st ?_
                refine NV.p T ?_
                refine RL.st ?_
                refine NV.p T ?_
                refine RL.nil _ _ _ _ ?_
                refine hK3 _ _ _ ?_
                refine SW.ret ?_
                refine retQ.ret (H' := H) (RVs.tmp (by conv => lhs; whnf) RVs.nil) (fun w hw => Sat.sub (by repeat first | exact List.Sublist.refl _ | apply List.Sublist.cons_cons | apply List.Sublist.cons | exact List.sublist_append_right _ _ | refine List.Sublist.trans ?_ (List.sublist_append_right _ _)) hw) ?_
                clear hK3 K3 hK2 K2 hK1 K1 hK0 K0
                exact ⟨rfl, rfl⟩
                )
             )
          ·try simp only [decide_eq_true_eq, decide_eq_false_iff_not, Bool.not_eq_true', Bool.not_eq_false', Int.not_lt, Int.not_le, Int.toNat_natCast] at hs3
           first
            | (exfalso; clear hK3 K3; clear hK2 K2; clear hK1 K1; clear hK0 K0; first | omega | contradiction)
            | (
             refine RL.guard_no rfl rfl rfl ?_
             refine RL.guard_no rfl rfl rfl ?_
             refine RL.guard_no rfl rfl rfl ?_
             refine RL.st ?_
             refine NV.p T ?_
             refine RL.st ?_
             refine NV.p T ?_
             refine RL.guard_no rfl rfl rfl ?_
             refine RL.guard_no rfl rfl rfl ?_
             refine RL.guard_no rfl rfl rfl ?_
             refine RL.guard_no rfl rfl rfl ?_
             refine RL.st ?_
             refine NV.p T ?_
             refine RL.st ?_
             refine NV.p T ?_
             refine RL.guard_no rfl rfl rfl ?_
             refine RL.guard_no rfl rfl rfl ?_
             refine RL.guard_no rfl rfl rfl ?_
             refine RL.guard_no rfl rfl rfl ?_
             refine RL.st ?_
             refine NV.p T ?_
             refine RL.st ?_
             refine NV.p T ?_
             refine RL.guard_no rfl rfl rfl ?_
             refine RL.guard_no rfl rfl rfl ?_
             refine RL.guard_no rfl rfl rfl ?_
             refine RL.guard_no rfl rfl rfl ?_
             refine RL.st ?_
             refine NV.p T ?_
             refine RL.st ?_
             refine NV.p T ?_
             refine RL.guard_no rfl rfl rfl ?_
             refine RL.guard_no rfl rfl rfl ?_
             refine RL.guard_no rfl rfl rfl ?_
             refine RL.guard_no rfl rfl rfl ?_
             refine RL.st ?_
             refine NV.p T ?_
             refine RL.st ?_
             refine NV.p T ?_
             refine RL.guard_no rfl rfl rfl ?_
             refine RL.guard_no rfl rfl rfl ?_
             refine RL.st ?_
             refine NV.p T ?_
             refine RL.st ?_
             refine NV.p T ?_
             refine RL.nil _ _ _ _ ?_
             refine hK3 _ _ _ ?_
             refine SW.ret ?_
             refine retQ.ret (H' := H) (RVs.tmp (by conv => lhs; whnf) RVs.nil) (fun w hw => Sat.sub (by repeat first | exact List.Sublist.refl _ | apply List.Sublist.cons_cons | apply List.Sublist.cons | exact List.sublist_append_right _ _ | refine List.Sublist.trans ?_ (List.sublist_append_right _ _)) hw) ?_
             clear hK3 K3 hK2 K2 hK1 K1 hK0 K0
             exact ⟨rfl, rfl⟩
             )
          )
       ·try simp only [decide_eq_true_eq, decide_eq_false_iff_not, Bool.not_eq_true', Bool.not_eq_false', Int.not_lt, Int.not_le, Int.toNat_natCast] at hs2
        first
         | (exfalso; clear hK3 K3; clear hK2 K2; clear hK1 K1; clear hK0 K0; first | omega | contradiction)
         | (
          refine RL.guard_no rfl rfl rfl ?_
          refine RL.guard_no rfl rfl rfl ?_
          refine RL.st ?_
          refine NV.p T ?_
          refine RL.st ?_
          refine NV.p T ?_
          refine RL.guard_no rfl rfl rfl ?_
          refine RL.guard_no rfl rfl rfl ?_
          refine RL.guard_no rfl rfl rfl ?_
          refine RL.st ?_
          refine NV.p T ?_
          refine RL.st ?_
          refine NV.p T ?_
          refine RL.guard_no rfl rfl rfl ?_
          refine RL.guard_no rfl rfl rfl ?_
          refine RL.guard_no rfl rfl rfl ?_
          refine RL.guard_no rfl rfl rfl ?_
          refine RL.st ?_
          refine NV.p T ?_
          refine RL.st ?_
          refine NV.p T ?_
          refine RL.guard_no rfl rfl rfl ?_
          refine RL.guard_no rfl rfl rfl ?_
          refine RL.guard_no rfl rfl rfl ?_
          refine RL.guard_no rfl rfl rfl ?_
          refine RL.st ?_
          refine NV.p T ?_
          refine RL.st ?_
          refine NV.p T ?_
          refine RL.guard_no rfl rfl rfl ?_
          refine RL.guard_no rfl rfl rfl ?_
          refine RL.guard_no rfl rfl rfl ?_
          refine RL.guard_no rfl rfl rfl ?_
          refine RL.st ?_
          refine NV.p T ?_
          refine RL.st ?_
          refine NV.p T ?_
          refine RL.guard_no rfl rfl rfl ?_
          refine RL.guard_no rfl rfl rfl ?_
          refine RL.guard_no rfl rfl rfl ?_
          refine RL.guard_no rfl rfl rfl ?_
          refine RL.st ?_
          refine NV.p T ?_
          refine RL.st ?_
          refine NV.p T ?_
          refine RL.guard_no rfl rfl rfl ?_
          refine RL.guard_no rfl rfl rfl ?_
          refine RL.st ?_
          refine NV.p T ?_
          refine RL.st ?_
          refine NV.p T ?_
          refine RL.nil _ _ _ _ ?_
          refine hK3 _ _ _ ?_
          refine SW.ret ?_
          refine retQ.ret (H' := H) (RVs.tmp (by conv => lhs; whnf) RVs.nil) (fun w hw => Sat.sub (by repeat first | exact List.Sublist.refl _ | apply List.Sublist.cons_cons | apply List.Sublist.cons | exact List.sublist_append_right _ _ | refine List.Sublist.trans ?_ (List.sublist_append_right _ _)) hw) ?_
          clear hK3 K3 hK2 K2 hK1 K1 hK0 K0
          exact ⟨rfl, rfl⟩
          )
       )
    ·try simp only [decide_eq_true_eq, decide_eq_false_iff_not, Bool.not_eq_true', Bool.not_eq_false', Int.not_lt, Int.not_le, Int.toNat_natCast] at hs1
     first
      | (exfalso; clear hK3 K3; clear hK2 K2; clear hK1 K1; clear hK0 K0; first | omega | contradiction)
      | (
       refine RL.guard_no rfl rfl rfl ?_
       refine RL.guard_no rfl rfl rfl ?_
       refine RL.guard_no rfl rfl rfl ?_
       refine RL.guard_no rfl rfl rfl ?_
       refine RL.st ?_
       refine NV.p T ?_
       refine RL.st ?_
       refine NV.p T ?_
       refine RL.guard_no rfl rfl rfl ?_
       refine RL.guard_no rfl rfl rfl ?_
       refine RL.st ?_
       refine NV.p T ?_
       refine RL.st ?_
       refine NV.p T ?_
       refine RL.guard_no rfl rfl rfl ?_
       refine RL.guard_no rfl rfl rfl ?_
       refine RL.guard_no rfl rfl rfl ?_
       refine RL.st ?_
       refine NV.p T ?_
       refine RL.st ?_
       refine NV.p T ?_
       refine RL.guard_no rfl rfl rfl ?_
       refine RL.guard_no rfl rfl rfl ?_
       refine RL.guard_no rfl rfl rfl ?_
       refine RL.guard_no rfl rfl rfl ?_
       refine RL.st ?_
       refine NV.p T ?_
       refine RL.st ?_
       refine NV.p T ?_
       refine RL.guard_no rfl rfl rfl ?_
       refine RL.guard_no rfl rfl rfl ?_
       refine RL.guard_no rfl rfl rfl ?_
       refine RL.guard_no rfl rfl rfl ?_
       refine RL.st ?_
       refine NV.p T ?_
       refine RL.st ?_
       refine NV.p T ?_
       refine RL.guard_no rfl rfl rfl ?_
       refine RL.guard_no rfl rfl rfl ?_
       refine RL.guard_no rfl rfl rfl ?_
       refine RL.guard_no rfl rfl rfl ?_
       refine RL.st ?_
       refine NV.p T ?_
       refine RL.st ?_
       refine NV.p T ?_
       refine RL.guard_no rfl rfl rfl ?_
       refine RL.guard_no rfl rfl rfl ?_
       refine RL.guard_no rfl rfl rfl ?_
       refine RL.guard_no rfl rfl rfl ?_
       refine RL.st ?_
       refine NV.p T ?_
       refine RL.st ?_
       refine NV.p T ?_
       refine RL.guard_no rfl rfl rfl ?_
       refine RL.guard_no rfl rfl rfl ?_
       refine RL.st ?_
       refine NV.p T ?_
       refine RL.st ?_
       refine NV.p T ?_
       refine RL.nil _ _ _ _ ?_
       refine hK3 _ _ _ ?_
       refine SW.ret ?_
       refine retQ.ret (H' := H) (RVs.tmp (by conv => lhs; whnf) RVs.nil) (fun w hw => Sat.sub (by repeat first | exact List.Sublist.refl _ | apply List.Sublist.cons_cons | apply List.Sublist.cons | exact List.sublist_append_right _ _ | refine List.Sublist.trans ?_ (List.sublist_append_right _ _)) hw) ?_
       clear hK3 K3 hK2 K2 hK1 K1 hK0 K0
       exact ⟨rfl, rfl⟩
       )
    )
 ·try simp only [decide_eq_true_eq, decide_eq_false_iff_not, Bool.not_eq_true', Bool.not_eq_false', Int.not_lt, Int.not_le, Int.toNat_natCast] at hs0
  first
   | (exfalso; clear hK3 K3; clear hK2 K2; clear hK1 K1; clear hK0 K0; first | omega | contradiction)
   | (
    refine RL.guard_no rfl rfl rfl ?_
    refine RL.guard_no rfl rfl rfl ?_
    refine RL.guard_no rfl rfl rfl ?_
    refine RL.guard_no rfl rfl rfl ?_
    refine RL.st ?_
    refine NV.p T ?_
    refine RL.st ?_
    refine NV.p T ?_
    refine RL.guard_no rfl rfl rfl ?_
    refine RL.guard_no rfl rfl rfl ?_
    refine RL.guard_no rfl rfl rfl ?_
    refine RL.guard_no rfl rfl rfl ?_
    refine RL.st ?_
    refine NV.p T ?_
    refine RL.st ?_
    refine NV.p T ?_
    refine RL.guard_no rfl rfl rfl ?_
    refine RL.guard_no rfl rfl rfl ?_
    refine RL.st ?_
    refine NV.p T ?_
    refine RL.st ?_
    refine NV.p T ?_
    refine RL.guard_no rfl rfl rfl ?_
    refine RL.guard_no rfl rfl rfl ?_
    refine RL.guard_no rfl rfl rfl ?_
    refine RL.st ?_
    refine NV.p T ?_
    refine RL.st ?_
    refine NV.p T ?_
    refine RL.guard_no rfl rfl rfl ?_
    refine RL.guard_no rfl rfl rfl ?_
    refine RL.guard_no rfl rfl rfl ?_
    refine RL.guard_no rfl rfl rfl ?_
    refine RL.st ?_
    refine NV.p T ?_
    refine RL.st ?_
    refine NV.p T ?_
    refine RL.guard_no rfl rfl rfl ?_
    refine RL.guard_no rfl rfl rfl ?_
    refine RL.guard_no rfl rfl rfl ?_
    refine RL.guard_no rfl rfl rfl ?_
    refine RL.st ?_
    refine NV.p T ?_
    refine RL.st ?_
    refine NV.p T ?_
    refine RL.guard_no rfl rfl rfl ?_
    refine RL.guard_no rfl rfl rfl ?_
    refine RL.guard_no rfl rfl rfl ?_
    refine RL.guard_no rfl rfl rfl ?_
    refine RL.st ?_
    refine NV.p T ?_
    refine RL.st ?_
    refine NV.p T ?_
    refine RL.guard_no rfl rfl rfl ?_
    refine RL.guard_no rfl rfl rfl ?_
    refine RL.guard_no rfl rfl rfl ?_
    refine RL.guard_no rfl rfl rfl ?_
    refine RL.st ?_
    refine NV.p T ?_
    refine RL.st ?_
    refine NV.p T ?_
    refine RL.guard_no rfl rfl rfl ?_
    refine RL.guard_no rfl rfl rfl ?_
    refine RL.st ?_
    refine NV.p T ?_
    refine RL.st ?_
    refine NV.p T ?_
    refine RL.nil _ _ _ _ ?_
    refine hK3 _ _ _ ?_
    refine SW.ret ?_
    refine retQ.ret (H' := H) (RVs.tmp (by conv => lhs; whnf) RVs.nil) (fun w hw => Sat.sub (by repeat first | exact List.Sublist.refl _ | apply List.Sublist.cons_cons | apply List.Sublist.cons | exact List.sublist_append_right _ _ | refine List.Sublist.trans ?_ (List.sublist_append_right _ _)) hw) ?_
    clear hK3 K3 hK2 K2 hK1 K1 hK0 K0
    exact ⟨rfl, rfl⟩
    )
theorem good {w0 : World} {H : List Chunk} (prev ev : Int) (ah : Bool) (sa : Option Addr) (n c : Nat) : SC Try.prog w0 13 #[.agg #[.int .u8 prev, .slice sa n c, .int .i64 ev, .bool ah]] H (fun v H' => v = .bool (decide (n ≤ 3000) || decide (65536 < n)) ∧ H' = H) := by
 refine SC.enter Try.func13 rfl (Nat.le_of_ble_eq_true rfl) ?_
 refine SW.seq_k ?_
 intro K0 hK0
 refine SW.region _ _ _ _ ?_
 refine RL.st ?_
 refine NV.box rfl (by exact (rfl : _ = [_, _, _, _])) ?_
 intro b1_0
 refine RL.st ?_
 refine NV.p T ?_
 refine RL.nil _ _ _ _ ?_
 refine hK0 _ _ _ ?_
 refine SW.seq_k ?_
 intro K1 hK1
 refine SW.region _ _ _ _ ?_
 refine RL.st ?_
 refine NV.p T ?_
 refine RL.st ?_
 refine NV.lv1 T ?_
 refine RL.st ?_
 refine NV.p T ?_
 refine RL.st ?_
 refine NV.p T ?_
 refine RL.st ?_
 refine NV.p T ?_
 refine RL.split 7 rfl (fun hs0 => ?_) (fun hs0 => ?_)
 ·try simp only [decide_eq_true_eq, decide_eq_false_iff_not, Bool.not_eq_true', Bool.not_eq_false', Int.not_lt, Int.not_le, Int.toNat_natCast] at hs0
  first
   | (exfalso; clear hK1 K1; clear hK0 K0; first | omega | contradiction)
   | (
    refine RL.guard_no rfl rfl rfl ?_
    refine RL.guard_no rfl rfl rfl ?_
    refine RL.guard_no rfl rfl rfl ?_
    refine RL.guard_no rfl rfl rfl ?_
    refine RL.st ?_
    refine NV.p T ?_
    refine RL.st ?_
    refine NV.p T ?_
    refine RL.nil _ _ _ _ ?_
    refine hK1 _ _ _ ?_
    refine SW.ret ?_
    refine retQ.ret (H' := H) (RVs.tmp (by conv => lhs; whnf) RVs.nil) (fun w hw => Sat.sub (by repeat first | exact List.Sublist.refl _ | apply List.Sublist.cons_cons | apply List.Sublist.cons | exact List.sublist_append_right _ _ | refine List.Sublist.trans ?_ (List.sublist_append_right _ _)) hw) ?_
    clear hK1 K1 hK0 K0
    refine ⟨boolE ?_, rfl⟩; rw [Bool.eq_iff_iff]; simp only [Bool.or_eq_true, decide_eq_true_eq]; first | omega | (simp; omega)
    )
 ·try simp only [decide_eq_true_eq, decide_eq_false_iff_not, Bool.not_eq_true', Bool.not_eq_false', Int.not_lt, Int.not_le, Int.toNat_natCast] at hs0
  first
   | (exfalso; clear hK1 K1; clear hK0 K0; first | omega | contradiction)
   | (
    refine RL.st ?_
    refine NV.p T ?_
    refine RL.st ?_
    refine NV.lv1 T ?_
    refine RL.st ?_
    refine NV.p T ?_
    refine RL.st ?_
    refine NV.p T ?_
    refine RL.st ?_
    refine NV.p T ?_
    refine RL.st ?_
    refine NV.p T ?_
    refine RL.nil _ _ _ _ ?_
    refine hK1 _ _ _ ?_
    refine SW.ret ?_
    refine retQ.ret (H' := H) (RVs.tmp (by conv => lhs; whnf) RVs.nil) (fun w hw => Sat.sub (by repeat first | exact List.Sublist.refl _ | apply List.Sublist.cons_cons | apply List.Sublist.cons | exact List.sublist_append_right _ _ | refine List.Sublist.trans ?_ (List.sublist_append_right _ _)) hw) ?_
    clear hK1 K1 hK0 K0
    refine ⟨boolE ?_, rfl⟩; rw [Bool.eq_iff_iff]; simp only [Bool.or_eq_true, decide_eq_true_eq]; first | omega | (simp; omega)
    )
theorem puts_no {w0 : World} {H : List Chunk} (prev ev : Int) (ah : Bool) (p0 : 0 ≤ prev) (sa : Option Addr) (n c : Nat) (es : List Int) (hR : ∀ H, Rd w0 H sa n c 1 (es.map (.int .u8))) (hn : n = es.length) (hm : n ≤ 140737488351232) (hb : Byte es) (sr nr cr : Nat) (sb : Option Addr) (h : ¬ (n ≤ 3000 ∨ 65536 < n) ∨ (3000 < nr ∧ nr ≤ 65536)) : SC Try.prog w0 4 #[.agg #[.int .u8 prev, .slice sa n c, .int .i64 ev, .bool ah], .slice sb nr cr] H (fun v H' => v = .bool true ∧ H' = H) := by
 refine SC.enter Try.func4 rfl (Nat.le_of_ble_eq_true rfl) ?_
 refine SW.seq_k ?_
 intro K0 hK0
 refine SW.region _ _ _ _ ?_
 refine RL.st ?_
 refine NV.box rfl (by exact (rfl : _ = [_, _, _, _])) ?_
 intro b2_0
 refine RL.st ?_
 refine NV.p T ?_
 refine RL.nil _ _ _ _ ?_
 refine hK0 _ _ _ ?_
 refine SW.seq_k ?_
 intro K1 hK1
 refine SW.seq_k ?_
 intro K2 hK2
 refine SW.region _ _ _ _ ?_
 refine RL.st ?_
 refine NV.call rfl rfl rfl fun9 rfl rfl (alive) ?_
 rintro _ _ ⟨rfl, e⟩; obtain rfl := e.symm
 refine RL.st ?_
 refine NV.p T ?_
 refine RL.nil _ _ _ _ ?_
 refine hK2 _ _ _ ?_
 refine SW.cond rfl (fun hc0 => ?_) (fun hc0 => ?_)
 ·try simp only [decide_eq_true_eq, decide_eq_false_iff_not, Bool.not_eq_true', Bool.not_eq_false', Int.not_lt, Int.not_le, Int.toNat_natCast] at hc0
  first
   | (exfalso; clear hK2 K2; clear hK1 K1; clear hK0 K0; first | omega | contradiction | (simp at *; omega))
   | (
    refine SW.seq_k ?_
    intro K3 hK3
    refine SW.region _ _ _ _ ?_
    refine RL.st ?_
    refine NV.p T ?_
    refine RL.nil _ _ _ _ ?_
    refine hK3 _ _ _ ?_
    refine SW.ret ?_
    refine retQ.ret (H' := H) (RVs.tmp (by conv => lhs; whnf) RVs.nil) (fun w hw => Sat.sub (by repeat first | exact List.Sublist.refl _ | apply List.Sublist.cons_cons | apply List.Sublist.cons | exact List.sublist_append_right _ _ | refine List.Sublist.trans ?_ (List.sublist_append_right _ _)) hw) ?_
    clear hK3 K3 hK2 K2 hK1 K1 hK0 K0
    first | exact ⟨rfl, rfl⟩ | (refine ⟨boolE ?_, rfl⟩; simp)
    )
 ·try simp only [decide_eq_true_eq, decide_eq_false_iff_not, Bool.not_eq_true', Bool.not_eq_false', Int.not_lt, Int.not_le, Int.toNat_natCast] at hc0
  first
   | (exfalso; clear hK2 K2; clear hK1 K1; clear hK0 K0; first | omega | contradiction | (simp at *; omega))
   | (
    refine SW.skip ?_
    refine hK1 _ _ _ ?_
    refine SW.seq_k ?_
    intro K4 hK4
    refine SW.seq_k ?_
    intro K5 hK5
    refine SW.region _ _ _ _ ?_
    refine RL.st ?_
    refine NV.load_varN T rfl rfl rfl rfl rfl (by repeat first | exact At.head _ _ | assumption | exact At.put (by assumption) _ | apply At.tail | apply At.app) (by exact (rfl : _ = [_, _, _, _])) rfl ?_
    refine RL.st ?_
    refine NV.call rfl rfl rfl fun13 rfl rfl (good prev ev ah sa n c) ?_
    rintro _ _ ⟨rfl, e⟩; obtain rfl := e.symm
    refine RL.st ?_
    refine NV.p T ?_
    refine RL.st ?_
    refine NV.p T ?_
    refine RL.split 19 rfl (fun hs0 => ?_) (fun hs0 => ?_)
    ·try simp only [decide_eq_true_eq, decide_eq_false_iff_not, Bool.not_eq_true', Bool.not_eq_false', Int.not_lt, Int.not_le, Int.toNat_natCast] at hs0
     first
      | (exfalso; clear hK5 K5; clear hK4 K4; clear hK2 K2; clear hK1 K1; clear hK0 K0; first | omega | contradiction | (simp at *; omega))
      | (
       refine RL.guard_no rfl rfl rfl ?_
       refine RL.guard_no rfl rfl rfl ?_
       refine RL.guard_no rfl rfl rfl ?_
       refine RL.guard_no rfl rfl rfl ?_
       refine RL.guard_no rfl rfl rfl ?_
       refine RL.guard_no rfl rfl rfl ?_
       refine RL.guard_no rfl rfl rfl ?_
       refine RL.guard_no rfl rfl rfl ?_
       refine RL.st ?_
       refine NV.p T ?_
       refine RL.nil _ _ _ _ ?_
       refine hK5 _ _ _ ?_
       refine SW.cond_t rfl ?_
       refine SW.seq_k ?_
       intro K6 hK6
       refine SW.region _ _ _ _ ?_
       refine RL.st ?_
       refine NV.p T ?_
       refine RL.nil _ _ _ _ ?_
       refine hK6 _ _ _ ?_
       refine SW.ret ?_
       refine retQ.ret (H' := H) (RVs.tmp (by conv => lhs; whnf) RVs.nil) (fun w hw => Sat.sub (by repeat first | exact List.Sublist.refl _ | apply List.Sublist.cons_cons | apply List.Sublist.cons | exact List.sublist_append_right _ _ | refine List.Sublist.trans ?_ (List.sublist_append_right _ _)) hw) ?_
       clear hK6 K6 hK5 K5 hK4 K4 hK2 K2 hK1 K1 hK0 K0
       first | exact ⟨rfl, rfl⟩ | (refine ⟨boolE ?_, rfl⟩; simp)
       )
    ·try simp only [decide_eq_true_eq, decide_eq_false_iff_not, Bool.not_eq_true', Bool.not_eq_false', Int.not_lt, Int.not_le, Int.toNat_natCast] at hs0
     first
      | (exfalso; clear hK5 K5; clear hK4 K4; clear hK2 K2; clear hK1 K1; clear hK0 K0; first | omega | contradiction | (simp at *; omega))
      | (
       refine RL.st ?_
       refine NV.p T ?_
       refine RL.st ?_
       refine NV.p T ?_
       refine RL.st ?_
       refine NV.p T ?_
       refine RL.st ?_
       refine NV.p T ?_
       refine RL.split 23 rfl (fun hs1 => ?_) (fun hs1 => ?_)
       ·try simp only [decide_eq_true_eq, decide_eq_false_iff_not, Bool.not_eq_true', Bool.not_eq_false', Int.not_lt, Int.not_le, Int.toNat_natCast] at hs1
        first
         | (exfalso; clear hK5 K5; clear hK4 K4; clear hK2 K2; clear hK1 K1; clear hK0 K0; first | omega | contradiction | (simp at *; omega))
         | (
          refine RL.st ?_
          refine NV.p T ?_
          refine RL.st ?_
          refine NV.p T ?_
          refine RL.st ?_
          refine NV.p T ?_
          refine RL.st ?_
          refine NV.p T ?_
          refine RL.st ?_
          refine NV.p T ?_
          refine RL.nil _ _ _ _ ?_
          refine hK5 _ _ _ ?_
          refine SW.cond rfl (fun hc1 => ?_) (fun hc1 => ?_)
          ·try simp only [decide_eq_true_eq, decide_eq_false_iff_not, Bool.not_eq_true', Bool.not_eq_false', Int.not_lt, Int.not_le, Int.toNat_natCast] at hc1
           first
            | (exfalso; clear hK5 K5; clear hK4 K4; clear hK2 K2; clear hK1 K1; clear hK0 K0; first | omega | contradiction | (simp at *; omega))
            | (
             refine SW.seq_k ?_
             intro K7 hK7
             refine SW.region _ _ _ _ ?_
             refine RL.st ?_
             refine NV.p T ?_
             refine RL.nil _ _ _ _ ?_
             refine hK7 _ _ _ ?_
             refine SW.ret ?_
             refine retQ.ret (H' := H) (RVs.tmp (by conv => lhs; whnf) RVs.nil) (fun w hw => Sat.sub (by repeat first | exact List.Sublist.refl _ | apply List.Sublist.cons_cons | apply List.Sublist.cons | exact List.sublist_append_right _ _ | refine List.Sublist.trans ?_ (List.sublist_append_right _ _)) hw) ?_
             clear hK7 K7 hK5 K5 hK4 K4 hK2 K2 hK1 K1 hK0 K0
             first | exact ⟨rfl, rfl⟩ | (refine ⟨boolE ?_, rfl⟩; simp)
             )
          ·try simp only [decide_eq_true_eq, decide_eq_false_iff_not, Bool.not_eq_true', Bool.not_eq_false', Int.not_lt, Int.not_le, Int.toNat_natCast] at hc1
           exfalso; clear hK5 K5; clear hK4 K4; clear hK2 K2; clear hK1 K1; clear hK0 K0; first | omega | contradiction | (simp at *; omega)
          )
       ·try simp only [decide_eq_true_eq, decide_eq_false_iff_not, Bool.not_eq_true', Bool.not_eq_false', Int.not_lt, Int.not_le, Int.toNat_natCast] at hs1
        exfalso; clear hK5 K5; clear hK4 K4; clear hK2 K2; clear hK1 K1; clear hK0 K0; first | omega | contradiction | (simp at *; omega)
       )
    )
theorem puts_ok {w0 : World} {H : List Chunk} (prev ev : Int) (ah : Bool) (p0 : 0 ≤ prev) (sa : Option Addr) (n c : Nat) (es : List Int) (hR : ∀ H, Rd w0 H sa n c 1 (es.map (.int .u8))) (hn : n = es.length) (hm : n ≤ 140737488351232) (hb : Byte es) (sar : Option Addr) (nr cr : Nat) (esr : List Int) (hRr : ∀ H, Rd w0 H sar nr cr 1 (esr.map (.int .u8))) (hnr : nr = esr.length) (hmr : nr ≤ 140737488351232) (hbr : Byte esr) (h : n ≤ 3000 ∨ 65536 < n) (h2 : nr ≤ 3000 ∨ 65536 < nr) (h3 : (decide (n ≤ 3000) || decide (65536 < n)) = true) : SC Try.prog w0 4 #[.agg #[.int .u8 prev, .slice sa n c, .int .i64 ev, .bool ah], .slice sar nr cr] H (fun v H' => v = .bool true ∧ H' = H) := by
 refine SC.enter Try.func4 rfl (Nat.le_of_ble_eq_true rfl) ?_
 refine SW.seq_k ?_
 intro K0 hK0
 refine SW.region _ _ _ _ ?_
 refine RL.st ?_
 refine NV.box rfl (by exact (rfl : _ = [_, _, _, _])) ?_
 intro b2_0
 refine RL.st ?_
 refine NV.p T ?_
 refine RL.nil _ _ _ _ ?_
 refine hK0 _ _ _ ?_
 refine SW.seq_k ?_
 intro K1 hK1
 refine SW.seq_k ?_
 intro K2 hK2
 refine SW.region _ _ _ _ ?_
 refine RL.st ?_
 refine NV.call rfl rfl rfl fun9 rfl rfl (alive) ?_
 rintro _ _ ⟨rfl, e⟩; obtain rfl := e.symm
 refine RL.st ?_
 refine NV.p T ?_
 refine RL.nil _ _ _ _ ?_
 refine hK2 _ _ _ ?_
 refine SW.cond rfl (fun hc0 => ?_) (fun hc0 => ?_)
 ·try simp only [decide_eq_true_eq, decide_eq_false_iff_not, Bool.not_eq_true', Bool.not_eq_false', Int.not_lt, Int.not_le, Int.toNat_natCast] at hc0
  first
   | (exfalso; clear hK2 K2; clear hK1 K1; clear hK0 K0; first | omega | contradiction)
   | (
    refine SW.seq_k ?_
    intro K3 hK3
    refine SW.region _ _ _ _ ?_
    refine RL.st ?_
    refine NV.p T ?_
    refine RL.nil _ _ _ _ ?_
    refine hK3 _ _ _ ?_
    refine SW.ret ?_
    refine retQ.ret (H' := H) (RVs.tmp (by conv => lhs; whnf) RVs.nil) (fun w hw => Sat.sub (by repeat first | exact List.Sublist.refl _ | apply List.Sublist.cons_cons | apply List.Sublist.cons | exact List.sublist_append_right _ _ | refine List.Sublist.trans ?_ (List.sublist_append_right _ _)) hw) ?_
    clear hK3 K3 hK2 K2 hK1 K1 hK0 K0
    first | exact ⟨rfl, rfl⟩ | (refine ⟨boolE ?_, rfl⟩; simp)
    )
 ·try simp only [decide_eq_true_eq, decide_eq_false_iff_not, Bool.not_eq_true', Bool.not_eq_false', Int.not_lt, Int.not_le, Int.toNat_natCast] at hc0
  first
   | (exfalso; clear hK2 K2; clear hK1 K1; clear hK0 K0; first | omega | contradiction)
   | (
    refine SW.skip ?_
    refine hK1 _ _ _ ?_
    refine SW.seq_k ?_
    intro K4 hK4
    refine SW.seq_k ?_
    intro K5 hK5
    refine SW.region _ _ _ _ ?_
    refine RL.st ?_
    refine NV.load_varN T rfl rfl rfl rfl rfl (by repeat first | exact At.head _ _ | assumption | exact At.put (by assumption) _ | apply At.tail | apply At.app) (by exact (rfl : _ = [_, _, _, _])) rfl ?_
    refine RL.st ?_
    refine NV.call rfl rfl rfl fun13 rfl rfl ((good prev ev ah sa n c).mono (fun v H' g => by rw [h3] at g; exact g)) ?_
    rintro _ _ ⟨rfl, e⟩; obtain rfl := e.symm
    refine RL.st ?_
    refine NV.p T ?_
    refine RL.st ?_
    refine NV.p T ?_
    refine RL.split 19 rfl (fun hs0 => ?_) (fun hs0 => ?_)
    ·try simp only [decide_eq_true_eq, decide_eq_false_iff_not, Bool.not_eq_true', Bool.not_eq_false', Int.not_lt, Int.not_le, Int.toNat_natCast] at hs0
     first
      | (exfalso; clear hK5 K5; clear hK4 K4; clear hK2 K2; clear hK1 K1; clear hK0 K0; first | omega | contradiction)
      | (
       refine RL.guard_no rfl rfl rfl ?_
       refine RL.guard_no rfl rfl rfl ?_
       refine RL.guard_no rfl rfl rfl ?_
       refine RL.guard_no rfl rfl rfl ?_
       refine RL.guard_no rfl rfl rfl ?_
       refine RL.guard_no rfl rfl rfl ?_
       refine RL.guard_no rfl rfl rfl ?_
       refine RL.guard_no rfl rfl rfl ?_
       refine RL.st ?_
       refine NV.p T ?_
       refine RL.nil _ _ _ _ ?_
       refine hK5 _ _ _ ?_
       refine SW.cond_t rfl ?_
       refine SW.seq_k ?_
       intro K6 hK6
       refine SW.region _ _ _ _ ?_
       refine RL.st ?_
       refine NV.p T ?_
       refine RL.nil _ _ _ _ ?_
       refine hK6 _ _ _ ?_
       refine SW.ret ?_
       refine retQ.ret (H' := H) (RVs.tmp (by conv => lhs; whnf) RVs.nil) (fun w hw => Sat.sub (by repeat first | exact List.Sublist.refl _ | apply List.Sublist.cons_cons | apply List.Sublist.cons | exact List.sublist_append_right _ _ | refine List.Sublist.trans ?_ (List.sublist_append_right _ _)) hw) ?_
       clear hK6 K6 hK5 K5 hK4 K4 hK2 K2 hK1 K1 hK0 K0
       first | exact ⟨rfl, rfl⟩ | (refine ⟨boolE ?_, rfl⟩; simp)
       )
    ·try simp only [decide_eq_true_eq, decide_eq_false_iff_not, Bool.not_eq_true', Bool.not_eq_false', Int.not_lt, Int.not_le, Int.toNat_natCast] at hs0
     first
      | (exfalso; clear hK5 K5; clear hK4 K4; clear hK2 K2; clear hK1 K1; clear hK0 K0; first | omega | contradiction)
      | (
       refine RL.st ?_
       refine NV.p T ?_
       refine RL.st ?_
       refine NV.p T ?_
       refine RL.st ?_
       refine NV.p T ?_
       refine RL.st ?_
       refine NV.p T ?_
       refine RL.split 23 rfl (fun hs1 => ?_) (fun hs1 => ?_)
       ·try simp only [decide_eq_true_eq, decide_eq_false_iff_not, Bool.not_eq_true', Bool.not_eq_false', Int.not_lt, Int.not_le, Int.toNat_natCast] at hs1
        first
         | (exfalso; clear hK5 K5; clear hK4 K4; clear hK2 K2; clear hK1 K1; clear hK0 K0; first | omega | contradiction)
         | (
          refine RL.st ?_
          refine NV.p T ?_
          refine RL.st ?_
          refine NV.p T ?_
          refine RL.st ?_
          refine NV.p T ?_
          refine RL.st ?_
          refine NV.p T ?_
          refine RL.st ?_
          refine NV.p T ?_
          refine RL.nil _ _ _ _ ?_
          refine hK5 _ _ _ ?_
          refine SW.cond rfl (fun hc1 => ?_) (fun hc1 => ?_)
          ·try simp only [decide_eq_true_eq, decide_eq_false_iff_not, Bool.not_eq_true', Bool.not_eq_false', Int.not_lt, Int.not_le, Int.toNat_natCast] at hc1
           first
            | (exfalso; clear hK5 K5; clear hK4 K4; clear hK2 K2; clear hK1 K1; clear hK0 K0; first | omega | contradiction)
            | (
             refine SW.seq_k ?_
             intro K7 hK7
             refine SW.region _ _ _ _ ?_
             refine RL.st ?_
             refine NV.p T ?_
             refine RL.nil _ _ _ _ ?_
             refine hK7 _ _ _ ?_
             refine SW.ret ?_
             refine retQ.ret (H' := H) (RVs.tmp (by conv => lhs; whnf) RVs.nil) (fun w hw => Sat.sub (by repeat first | exact List.Sublist.refl _ | apply List.Sublist.cons_cons | apply List.Sublist.cons | exact List.sublist_append_right _ _ | refine List.Sublist.trans ?_ (List.sublist_append_right _ _)) hw) ?_
             clear hK7 K7 hK5 K5 hK4 K4 hK2 K2 hK1 K1 hK0 K0
             first | exact ⟨rfl, rfl⟩ | (refine ⟨boolE ?_, rfl⟩; simp)
             )
          ·try simp only [decide_eq_true_eq, decide_eq_false_iff_not, Bool.not_eq_true', Bool.not_eq_false', Int.not_lt, Int.not_le, Int.toNat_natCast] at hc1
           first
            | (exfalso; clear hK5 K5; clear hK4 K4; clear hK2 K2; clear hK1 K1; clear hK0 K0; first | omega | contradiction)
            | (
             refine SW.skip ?_
             refine hK4 _ _ _ ?_
             refine SW.seq_k ?_
             intro K8 hK8
             refine SW.region _ _ _ _ ?_
             refine RL.st ?_
             refine NV.p T ?_
             refine RL.st ?_
             refine NV.load_varN T rfl rfl rfl rfl rfl (by repeat first | exact At.head _ _ | assumption | exact At.put (by assumption) _ | apply At.tail | apply At.app) (by exact (rfl : _ = [_, _])) rfl ?_
             refine RL.st ?_
             refine NV.alloc T rfl rfl rfl (by exact (rfl : _ = [_, _])) ?_
             intro b5_1
             refine RL.st ?_
             first
               | refine NV.store_var1 T rfl rfl rfl rfl (by conv => lhs; whnf) rfl (by repeat first | exact At.head _ _ | assumption | exact At.put (by assumption) _ | apply At.tail | apply At.app) rfl (by exact (rfl : _ = [_, _])) ?_
               | refine NV.store_var T rfl rfl rfl (by exact (rfl : _ = [_, _])) rfl rfl (by repeat first | exact At.head _ _ | assumption | exact At.put (by assumption) _ | apply At.tail | apply At.app) (Nat.le_of_ble_eq_true rfl) (by exact (rfl : _ = [_, _])) ?_
               | refine NV.store_elem T rfl rfl rfl rfl (by conv => lhs; whnf) rfl (by repeat first | exact At.head _ _ | assumption | exact At.put (by assumption) _ | apply At.tail | apply At.app) (by omega) ?_
             refine RL.nil _ _ _ _ ?_
             refine hK8 _ _ _ ?_
             refine SW.seq_k ?_
             intro K9 hK9
             refine SW.region _ _ _ _ ?_
             refine RL.st ?_
             refine NV.p T ?_
             refine RL.st ?_
             refine NV.lv1 T ?_
             refine RL.st ?_
             refine NV.p T ?_
             refine RL.st ?_
             refine NV.lv1 T ?_
             refine RL.st ?_
             refine NV.load_varN T rfl rfl rfl rfl rfl (by repeat first | exact At.head _ _ | assumption | exact At.put (by assumption) _ | apply At.tail | apply At.app) (by exact (rfl : _ = [_, _])) rfl ?_
             refine RL.st ?_
             refine NV.call rfl rfl rfl fun11 rfl rfl (put prev ev ah sa n c es (hR _) hn hm p0 hb) ?_
             rintro _ _ ⟨s1, k1, rfl, e⟩; obtain rfl := e.symm
             refine RL.st ?_
             refine NV.p T ?_
             refine RL.st ?_
             refine NV.p T ?_
             refine RL.st ?_
             refine NV.p T ?_
             refine RL.st ?_
             refine NV.p T ?_
             refine RL.st ?_
             refine NV.p T ?_
             refine RL.nil _ _ _ _ ?_
             refine hK9 _ _ _ ?_
             refine SW.seq_k ?_
             intro K10 hK10
             refine SW.region _ _ _ _ ?_
             refine RL.st ?_
             refine NV.p T ?_
             refine RL.st ?_
             refine NV.lv1 T ?_
             refine RL.st ?_
             refine NV.p T ?_
             refine RL.st ?_
             refine NV.lv1 T ?_
             refine RL.st ?_
             refine NV.p T ?_
             refine RL.st ?_
             refine NV.load_varN T rfl rfl rfl rfl rfl (by repeat first | exact At.head _ _ | assumption | exact At.put (by assumption) _ | apply At.tail | apply At.app) (by exact (rfl : _ = [_, _])) rfl ?_
             refine RL.st ?_
             refine NV.call rfl rfl rfl fun14 rfl rfl (rput prev ev ah sa n c es (hR _) hn hm p0 hb) ?_
             rintro _ _ ⟨_, rfl, a2, n2, c2, rfl, hn2, hR2, G2, e⟩; obtain rfl := e.symm
             refine RL.st ?_
             refine NV.p T ?_
             refine RL.st ?_
             refine NV.p T ?_
             refine RL.st ?_
             refine NV.p T ?_
             refine RL.st ?_
             refine NV.p T ?_
             refine RL.st ?_
             refine NV.p T ?_
             refine RL.nil _ _ _ _ ?_
             refine hK10 _ _ _ ?_
             refine SW.seq_k ?_
             intro K11 hK11
             refine SW.region _ _ _ _ ?_
             refine RL.st ?_
             refine NV.p T ?_
             refine RL.st ?_
             refine NV.lv1 T ?_
             refine RL.st ?_
             refine NV.p T ?_
             refine RL.st ?_
             refine NV.load_varN T rfl rfl rfl rfl rfl (by repeat first | exact At.head _ _ | assumption | exact At.put (by assumption) _ | apply At.tail | apply At.app) (by exact (rfl : _ = [_, _])) rfl ?_
             refine RL.st ?_
             refine NV.call rfl rfl rfl fun15 rfl rfl (fget prev ev ah sar nr cr esr (hRr _) hnr hmr p0 hbr) ?_
             rintro _ _ ⟨_, rfl, a3, n3, c3, rfl, hn3, hR3, G3, e⟩; obtain rfl := e.symm
             refine RL.st ?_
             refine NV.p T ?_
             refine RL.st ?_
             refine NV.p T ?_
             refine RL.st ?_
             refine NV.p T ?_
             refine RL.st ?_
             refine NV.p T ?_
             refine RL.st ?_
             refine NV.p T ?_
             refine RL.nil _ _ _ _ ?_
             refine hK11 _ _ _ ?_
             refine SW.seq_k ?_
             intro K12 hK12
             refine SW.region _ _ _ _ ?_
             refine RL.st ?_
             refine NV.p T ?_
             refine RL.st ?_
             refine NV.lv1 T ?_
             refine RL.st ?_
             refine NV.p T ?_
             refine RL.st ?_
             refine NV.p T ?_
             refine RL.st ?_
             refine NV.load_varN T rfl rfl rfl rfl rfl (by repeat first | exact At.head _ _ | assumption | exact At.put (by assumption) _ | apply At.tail | apply At.app) (by exact (rfl : _ = [_, _])) rfl ?_
             refine RL.st ?_
             refine NV.call rfl rfl rfl fun16 rfl rfl (rget prev ev ah sar nr cr esr (hRr _) hnr hmr p0 hbr) ?_
             rintro _ _ ⟨_, rfl, a4, n4, c4, rfl, hn4, hR4, G4, e⟩; obtain rfl := e.symm
             refine RL.st ?_
             refine NV.p T ?_
             refine RL.st ?_
             refine NV.p T ?_
             refine RL.st ?_
             refine NV.p T ?_
             refine RL.st ?_
             refine NV.p T ?_
             refine RL.st ?_
             refine NV.p T ?_
             refine RL.nil _ _ _ _ ?_
             refine hK12 _ _ _ ?_
             refine SW.seq_k ?_
             intro K13 hK13
             refine SW.region _ _ _ _ ?_
             refine RL.st ?_
             refine NV.p T ?_
             refine RL.st ?_
             refine NV.p T ?_
             refine RL.st ?_
             refine NV.sat (fun hs => ?_) (fun c hc => by cases hc)
             refine NV.call rfl rfl rfl fun12 rfl rfl ((same _ _ _ _ _ _ _ _ (Rd.row (by repeat first | exact At.head _ _ | apply At.tail | apply At.app) hs) (by repeat first | exact hR2 | apply Rd.cons | apply Rd.app) rfl hn2 (by have := putV_le prev es ev ah; omega) (by rw [hn2]; have := putV_le prev es ev ah; omega)).mono (fun v H' h => by rw [decide_eq_true rfl] at h; exact h)) ?_
             rintro _ _ ⟨rfl, e⟩; obtain rfl := e.symm
             refine RL.st ?_
             refine NV.p T ?_
             refine RL.split 70 rfl (fun hs2 => ?_) (fun hs2 => ?_)
             ·try simp only [decide_eq_true_eq, decide_eq_false_iff_not, Bool.not_eq_true', Bool.not_eq_false', Int.not_lt, Int.not_le, Int.toNat_natCast] at hs2
              first
               | (exfalso; clear hK13 K13; clear hK12 K12; clear hK11 K11; clear hK10 K10; clear hK9 K9; clear hK8 K8; clear hK5 K5; clear hK4 K4; clear hK2 K2; clear hK1 K1; clear hK0 K0; first | omega | contradiction)
               | (
                refine RL.st ?_
                refine NV.p T ?_
                refine RL.st ?_
                refine NV.p T ?_
                refine RL.st ?_
                refine NV.p T ?_
                refine RL.st ?_
                refine NV.p T ?_
                refine RL.st ?_
                refine NV.p T ?_
                refine RL.split 75 rfl (fun hs3 => ?_) (fun hs3 => ?_)
                ·try simp only [decide_eq_true_eq, decide_eq_false_iff_not, Bool.not_eq_true', Bool.not_eq_false', Int.not_lt, Int.not_le, Int.toNat_natCast] at hs3
                 first
                  | (exfalso; clear hK13 K13; clear hK12 K12; clear hK11 K11; clear hK10 K10; clear hK9 K9; clear hK8 K8; clear hK5 K5; clear hK4 K4; clear hK2 K2; clear hK1 K1; clear hK0 K0; first | omega | contradiction)
                  | (
                   refine RL.st ?_
                   refine NV.p T ?_
                   refine RL.st ?_
                   refine NV.p T ?_
                   refine RL.st ?_
                   refine NV.call rfl rfl rfl fun12 rfl rfl ((same _ _ _ _ _ _ _ _ (by repeat first | exact hR3 | apply Rd.cons | apply Rd.app) (by repeat first | exact hR4 | apply Rd.cons | apply Rd.app) hn3 hn4 (by rw [hn3]; have := getV_le prev esr ev ah; omega) (by rw [hn4]; have := getV_le prev esr ev ah; omega)).mono (fun v H' h => by rw [decide_eq_true rfl] at h; exact h)) ?_
                   rintro _ _ ⟨rfl, e⟩; obtain rfl := e.symm
                   refine RL.st ?_
                   refine NV.p T ?_
                   refine RL.st ?_
                   refine NV.p T ?_
                   refine RL.split 80 rfl (fun hs4 => ?_) (fun hs4 => ?_)
                   ·try simp only [decide_eq_true_eq, decide_eq_false_iff_not, Bool.not_eq_true', Bool.not_eq_false', Int.not_lt, Int.not_le, Int.toNat_natCast] at hs4
                    first
                     | (exfalso; clear hK13 K13; clear hK12 K12; clear hK11 K11; clear hK10 K10; clear hK9 K9; clear hK8 K8; clear hK5 K5; clear hK4 K4; clear hK2 K2; clear hK1 K1; clear hK0 K0; first | omega | contradiction)
                     | (
                      refine RL.st ?_
                      refine NV.p T ?_
                      refine RL.st ?_
                      refine NV.p T ?_
                      refine RL.st ?_
                      refine NV.p T ?_
                      refine RL.st ?_
                      refine NV.p T ?_
                      refine RL.st ?_
                      refine NV.p T ?_
                      refine RL.nil _ _ _ _ ?_
                      refine hK13 _ _ _ ?_
                      refine SW.ret ?_
                      refine retQ.ret (H' := H) (RVs.tmp (by conv => lhs; whnf) RVs.nil) (fun w hw => Sat.sub (by repeat first | exact List.Sublist.refl _ | apply List.Sublist.cons_cons | apply List.Sublist.cons | exact List.sublist_append_right _ _ | refine List.Sublist.trans ?_ (List.sublist_append_right _ _)) hw) ?_
                      clear hK13 K13 hK12 K12 hK11 K11 hK10 K10 hK9 K9 hK8 K8 hK5 K5 hK4 K4 hK2 K2 hK1 K1 hK0 K0
                      first | exact ⟨rfl, rfl⟩ | (refine ⟨boolE ?_, rfl⟩; simp)
                      )
                   ·try simp only [decide_eq_true_eq, decide_eq_false_iff_not, Bool.not_eq_true', Bool.not_eq_false', Int.not_lt, Int.not_le, Int.toNat_natCast] at hs4
                    first
                     | (exfalso; clear hK13 K13; clear hK12 K12; clear hK11 K11; clear hK10 K10; clear hK9 K9; clear hK8 K8; clear hK5 K5; clear hK4 K4; clear hK2 K2; clear hK1 K1; clear hK0 K0; first | omega | contradiction)
                     | (
                      refine RL.guard_no rfl rfl rfl ?_
                      refine RL.guard_no rfl rfl rfl ?_
                      refine RL.guard_no rfl rfl rfl ?_
                      refine RL.st ?_
                      refine NV.p T ?_
                      refine RL.st ?_
                      refine NV.p T ?_
                      refine RL.nil _ _ _ _ ?_
                      refine hK13 _ _ _ ?_
                      refine SW.ret ?_
                      refine retQ.ret (H' := H) (RVs.tmp (by conv => lhs; whnf) RVs.nil) (fun w hw => Sat.sub (by repeat first | exact List.Sublist.refl _ | apply List.Sublist.cons_cons | apply List.Sublist.cons | exact List.sublist_append_right _ _ | refine List.Sublist.trans ?_ (List.sublist_append_right _ _)) hw) ?_
                      clear hK13 K13 hK12 K12 hK11 K11 hK10 K10 hK9 K9 hK8 K8 hK5 K5 hK4 K4 hK2 K2 hK1 K1 hK0 K0
                      first | exact ⟨rfl, rfl⟩ | (refine ⟨boolE ?_, rfl⟩; simp)
                      )
                   )
                ·try simp only [decide_eq_true_eq, decide_eq_false_iff_not, Bool.not_eq_true', Bool.not_eq_false', Int.not_lt, Int.not_le, Int.toNat_natCast] at hs3
                 first
                  | (exfalso; clear hK13 K13; clear hK12 K12; clear hK11 K11; clear hK10 K10; clear hK9 K9; clear hK8 K8; clear hK5 K5; clear hK4 K4; clear hK2 K2; clear hK1 K1; clear hK0 K0; first | omega | contradiction)
                  | (
                   refine RL.guard_no rfl rfl rfl ?_
                   refine RL.guard_no rfl rfl rfl ?_
                   refine RL.guard_no rfl rfl rfl ?_
                   refine RL.st ?_
                   refine NV.p T ?_
                   refine RL.st ?_
                   refine NV.p T ?_
                   refine RL.guard_no rfl rfl rfl ?_
                   refine RL.guard_no rfl rfl rfl ?_
                   refine RL.guard_no rfl rfl rfl ?_
                   refine RL.st ?_
                   refine NV.p T ?_
                   refine RL.st ?_
                   refine NV.p T ?_
                   refine RL.nil _ _ _ _ ?_
                   refine hK13 _ _ _ ?_
                   refine SW.ret ?_
                   refine retQ.ret (H' := H) (RVs.tmp (by conv => lhs; whnf) RVs.nil) (fun w hw => Sat.sub (by repeat first | exact List.Sublist.refl _ | apply List.Sublist.cons_cons | apply List.Sublist.cons | exact List.sublist_append_right _ _ | refine List.Sublist.trans ?_ (List.sublist_append_right _ _)) hw) ?_
                   clear hK13 K13 hK12 K12 hK11 K11 hK10 K10 hK9 K9 hK8 K8 hK5 K5 hK4 K4 hK2 K2 hK1 K1 hK0 K0
                   first | exact ⟨rfl, rfl⟩ | (refine ⟨boolE ?_, rfl⟩; simp)
                   )
                )
             ·try simp only [decide_eq_true_eq, decide_eq_false_iff_not, Bool.not_eq_true', Bool.not_eq_false', Int.not_lt, Int.not_le, Int.toNat_natCast] at hs2
              first
               | (exfalso; clear hK13 K13; clear hK12 K12; clear hK11 K11; clear hK10 K10; clear hK9 K9; clear hK8 K8; clear hK5 K5; clear hK4 K4; clear hK2 K2; clear hK1 K1; clear hK0 K0; first | omega | contradiction)
               | (
                refine RL.guard_no rfl rfl rfl ?_
                refine RL.guard_no rfl rfl rfl ?_
                refine RL.guard_no rfl rfl rfl ?_
                refine RL.st ?_
                refine NV.p T ?_
                refine RL.st ?_
                refine NV.p T ?_
                refine RL.guard_no rfl rfl rfl ?_
                refine RL.guard_no rfl rfl rfl ?_
                refine RL.guard_no rfl rfl rfl ?_
                refine RL.st ?_
                refine NV.p T ?_
                refine RL.st ?_
                refine NV.p T ?_
                refine RL.guard_no rfl rfl rfl ?_
                refine RL.guard_no rfl rfl rfl ?_
                refine RL.guard_no rfl rfl rfl ?_
                refine RL.st ?_
                refine NV.p T ?_
                refine RL.st ?_
                refine NV.p T ?_
                refine RL.nil _ _ _ _ ?_
                refine hK13 _ _ _ ?_
                refine SW.ret ?_
                refine retQ.ret (H' := H) (RVs.tmp (by conv => lhs; whnf) RVs.nil) (fun w hw => Sat.sub (by repeat first | exact List.Sublist.refl _ | apply List.Sublist.cons_cons | apply List.Sublist.cons | exact List.sublist_append_right _ _ | refine List.Sublist.trans ?_ (List.sublist_append_right _ _)) hw) ?_
                clear hK13 K13 hK12 K12 hK11 K11 hK10 K10 hK9 K9 hK8 K8 hK5 K5 hK4 K4 hK2 K2 hK1 K1 hK0 K0
                first | exact ⟨rfl, rfl⟩ | (refine ⟨boolE ?_, rfl⟩; simp)
                )
             )
          )
       ·try simp only [decide_eq_true_eq, decide_eq_false_iff_not, Bool.not_eq_true', Bool.not_eq_false', Int.not_lt, Int.not_le, Int.toNat_natCast] at hs1
        first
         | (exfalso; clear hK5 K5; clear hK4 K4; clear hK2 K2; clear hK1 K1; clear hK0 K0; first | omega | contradiction)
         | (
          refine RL.guard_no rfl rfl rfl ?_
          refine RL.guard_no rfl rfl rfl ?_
          refine RL.guard_no rfl rfl rfl ?_
          refine RL.st ?_
          refine NV.p T ?_
          refine RL.st ?_
          refine NV.p T ?_
          refine RL.nil _ _ _ _ ?_
          refine hK5 _ _ _ ?_
          refine SW.cond_f rfl ?_
          refine SW.skip ?_
          refine hK4 _ _ _ ?_
          refine SW.seq_k ?_
          intro K14 hK14
          refine SW.region _ _ _ _ ?_
          refine RL.st ?_
          refine NV.p T ?_
          refine RL.st ?_
          refine NV.load_varN T rfl rfl rfl rfl rfl (by repeat first | exact At.head _ _ | assumption | exact At.put (by assumption) _ | apply At.tail | apply At.app) (by exact (rfl : _ = [_, _])) rfl ?_
          refine RL.st ?_
          refine NV.alloc T rfl rfl rfl (by exact (rfl : _ = [_, _])) ?_
          intro b5_2
          refine RL.st ?_
          first
            | refine NV.store_var1 T rfl rfl rfl rfl (by conv => lhs; whnf) rfl (by repeat first | exact At.head _ _ | assumption | exact At.put (by assumption) _ | apply At.tail | apply At.app) rfl (by exact (rfl : _ = [_, _])) ?_
            | refine NV.store_var T rfl rfl rfl (by exact (rfl : _ = [_, _])) rfl rfl (by repeat first | exact At.head _ _ | assumption | exact At.put (by assumption) _ | apply At.tail | apply At.app) (Nat.le_of_ble_eq_true rfl) (by exact (rfl : _ = [_, _])) ?_
            | refine NV.store_elem T rfl rfl rfl rfl (by conv => lhs; whnf) rfl (by repeat first | exact At.head _ _ | assumption | exact At.put (by assumption) _ | apply At.tail | apply At.app) (by omega) ?_
          refine RL.nil _ _ _ _ ?_
          refine hK14 _ _ _ ?_
          refine SW.seq_k ?_
          intro K15 hK15
          refine SW.region _ _ _ _ ?_
          refine RL.st ?_
          refine NV.p T ?_
          refine RL.st ?_
          refine NV.lv1 T ?_
          refine RL.st ?_
          refine NV.p T ?_
          refine RL.st ?_
          refine NV.lv1 T ?_
          refine RL.st ?_
          refine NV.load_varN T rfl rfl rfl rfl rfl (by repeat first | exact At.head _ _ | assumption | exact At.put (by assumption) _ | apply At.tail | apply At.app) (by exact (rfl : _ = [_, _])) rfl ?_
          refine RL.st ?_
          refine NV.call rfl rfl rfl fun11 rfl rfl (put prev ev ah sa n c es (hR _) hn hm p0 hb) ?_
          rintro _ _ ⟨s1, k1, rfl, e⟩; obtain rfl := e.symm
          refine RL.st ?_
          refine NV.p T ?_
          refine RL.st ?_
          refine NV.p T ?_
          refine RL.st ?_
          refine NV.p T ?_
          refine RL.st ?_
          refine NV.p T ?_
          refine RL.st ?_
          refine NV.p T ?_
          refine RL.nil _ _ _ _ ?_
          refine hK15 _ _ _ ?_
          refine SW.seq_k ?_
          intro K16 hK16
          refine SW.region _ _ _ _ ?_
          refine RL.st ?_
          refine NV.p T ?_
          refine RL.st ?_
          refine NV.lv1 T ?_
          refine RL.st ?_
          refine NV.p T ?_
          refine RL.st ?_
          refine NV.lv1 T ?_
          refine RL.st ?_
          refine NV.p T ?_
          refine RL.st ?_
          refine NV.load_varN T rfl rfl rfl rfl rfl (by repeat first | exact At.head _ _ | assumption | exact At.put (by assumption) _ | apply At.tail | apply At.app) (by exact (rfl : _ = [_, _])) rfl ?_
          refine RL.st ?_
          refine NV.call rfl rfl rfl fun14 rfl rfl (rput prev ev ah sa n c es (hR _) hn hm p0 hb) ?_
          rintro _ _ ⟨_, rfl, a2, n2, c2, rfl, hn2, hR2, G2, e⟩; obtain rfl := e.symm
          refine RL.st ?_
          refine NV.p T ?_
          refine RL.st ?_
          refine NV.p T ?_
          refine RL.st ?_
          refine NV.p T ?_
          refine RL.st ?_
          refine NV.p T ?_
          refine RL.st ?_
          refine NV.p T ?_
          refine RL.nil _ _ _ _ ?_
          refine hK16 _ _ _ ?_
          refine SW.seq_k ?_
          intro K17 hK17
          refine SW.region _ _ _ _ ?_
          refine RL.st ?_
          refine NV.p T ?_
          refine RL.st ?_
          refine NV.lv1 T ?_
          refine RL.st ?_
          refine NV.p T ?_
          refine RL.st ?_
          refine NV.load_varN T rfl rfl rfl rfl rfl (by repeat first | exact At.head _ _ | assumption | exact At.put (by assumption) _ | apply At.tail | apply At.app) (by exact (rfl : _ = [_, _])) rfl ?_
          refine RL.st ?_
          refine NV.call rfl rfl rfl fun15 rfl rfl (fget prev ev ah sar nr cr esr (hRr _) hnr hmr p0 hbr) ?_
          rintro _ _ ⟨_, rfl, a3, n3, c3, rfl, hn3, hR3, G3, e⟩; obtain rfl := e.symm
          refine RL.st ?_
          refine NV.p T ?_
          refine RL.st ?_
          refine NV.p T ?_
          refine RL.st ?_
          refine NV.p T ?_
          refine RL.st ?_
          refine NV.p T ?_
          refine RL.st ?_
          refine NV.p T ?_
          refine RL.nil _ _ _ _ ?_
          refine hK17 _ _ _ ?_
          refine SW.seq_k ?_
          intro K18 hK18
          refine SW.region _ _ _ _ ?_
          refine RL.st ?_
          refine NV.p T ?_
          refine RL.st ?_
          refine NV.lv1 T ?_
          refine RL.st ?_
          refine NV.p T ?_
          refine RL.st ?_
          refine NV.p T ?_
          refine RL.st ?_
          refine NV.load_varN T rfl rfl rfl rfl rfl (by repeat first | exact At.head _ _ | assumption | exact At.put (by assumption) _ | apply At.tail | apply At.app) (by exact (rfl : _ = [_, _])) rfl ?_
          refine RL.st ?_
          refine NV.call rfl rfl rfl fun16 rfl rfl (rget prev ev ah sar nr cr esr (hRr _) hnr hmr p0 hbr) ?_
          rintro _ _ ⟨_, rfl, a4, n4, c4, rfl, hn4, hR4, G4, e⟩; obtain rfl := e.symm
          refine RL.st ?_
          refine NV.p T ?_
          refine RL.st ?_
          refine NV.p T ?_
          refine RL.st ?_
          refine NV.p T ?_
          refine RL.st ?_
          refine NV.p T ?_
          refine RL.st ?_
          refine NV.p T ?_
          refine RL.nil _ _ _ _ ?_
          refine hK18 _ _ _ ?_
          refine SW.seq_k ?_
          intro K19 hK19
          refine SW.region _ _ _ _ ?_
          refine RL.st ?_
          refine NV.p T ?_
          refine RL.st ?_
          refine NV.p T ?_
          refine RL.st ?_
          refine NV.sat (fun hs => ?_) (fun c hc => by cases hc)
          refine NV.call rfl rfl rfl fun12 rfl rfl ((same _ _ _ _ _ _ _ _ (Rd.row (by repeat first | exact At.head _ _ | apply At.tail | apply At.app) hs) (by repeat first | exact hR2 | apply Rd.cons | apply Rd.app) rfl hn2 (by have := putV_le prev es ev ah; omega) (by rw [hn2]; have := putV_le prev es ev ah; omega)).mono (fun v H' h => by rw [decide_eq_true rfl] at h; exact h)) ?_
          rintro _ _ ⟨rfl, e⟩; obtain rfl := e.symm
          refine RL.st ?_
          refine NV.p T ?_
          refine RL.split 70 rfl (fun hs5 => ?_) (fun hs5 => ?_)
          ·try simp only [decide_eq_true_eq, decide_eq_false_iff_not, Bool.not_eq_true', Bool.not_eq_false', Int.not_lt, Int.not_le, Int.toNat_natCast] at hs5
           first
            | (exfalso; clear hK19 K19; clear hK18 K18; clear hK17 K17; clear hK16 K16; clear hK15 K15; clear hK14 K14; clear hK5 K5; clear hK4 K4; clear hK2 K2; clear hK1 K1; clear hK0 K0; first | omega | contradiction)
            | (
             refine RL.st ?_
             refine NV.p T ?_
             refine RL.st ?_
             refine NV.p T ?_
             refine RL.st ?_
             refine NV.p T ?_
             refine RL.st ?_
             refine NV.p T ?_
             refine RL.st ?_
             refine NV.p T ?_
             refine RL.split 75 rfl (fun hs6 => ?_) (fun hs6 => ?_)
             ·try simp only [decide_eq_true_eq, decide_eq_false_iff_not, Bool.not_eq_true', Bool.not_eq_false', Int.not_lt, Int.not_le, Int.toNat_natCast] at hs6
              first
               | (exfalso; clear hK19 K19; clear hK18 K18; clear hK17 K17; clear hK16 K16; clear hK15 K15; clear hK14 K14; clear hK5 K5; clear hK4 K4; clear hK2 K2; clear hK1 K1; clear hK0 K0; first | omega | contradiction)
               | (
                refine RL.st ?_
                refine NV.p T ?_
                refine RL.st ?_
                refine NV.p T ?_
                refine RL.st ?_
                refine NV.call rfl rfl rfl fun12 rfl rfl ((same _ _ _ _ _ _ _ _ (by repeat first | exact hR3 | apply Rd.cons | apply Rd.app) (by repeat first | exact hR4 | apply Rd.cons | apply Rd.app) hn3 hn4 (by rw [hn3]; have := getV_le prev esr ev ah; omega) (by rw [hn4]; have := getV_le prev esr ev ah; omega)).mono (fun v H' h => by rw [decide_eq_true rfl] at h; exact h)) ?_
                rintro _ _ ⟨rfl, e⟩; obtain rfl := e.symm
                refine RL.st ?_
                refine NV.p T ?_
                refine RL.st ?_
                refine NV.p T ?_
                refine RL.split 80 rfl (fun hs7 => ?_) (fun hs7 => ?_)
                ·try simp only [decide_eq_true_eq, decide_eq_false_iff_not, Bool.not_eq_true', Bool.not_eq_false', Int.not_lt, Int.not_le, Int.toNat_natCast] at hs7
                 first
                  | (exfalso; clear hK19 K19; clear hK18 K18; clear hK17 K17; clear hK16 K16; clear hK15 K15; clear hK14 K14; clear hK5 K5; clear hK4 K4; clear hK2 K2; clear hK1 K1; clear hK0 K0; first | omega | contradiction)
                  | (
                   refine RL.st ?_
                   refine NV.p T ?_
                   refine RL.st ?_
                   refine NV.p T ?_
                   refine RL.st ?_
                   refine NV.p T ?_
                   refine RL.st ?_
                   refine NV.p T ?_
                   refine RL.st ?_
                   refine NV.p T ?_
                   refine RL.nil _ _ _ _ ?_
                   refine hK19 _ _ _ ?_
                   refine SW.ret ?_
                   refine retQ.ret (H' := H) (RVs.tmp (by conv => lhs; whnf) RVs.nil) (fun w hw => Sat.sub (by repeat first | exact List.Sublist.refl _ | apply List.Sublist.cons_cons | apply List.Sublist.cons | exact List.sublist_append_right _ _ | refine List.Sublist.trans ?_ (List.sublist_append_right _ _)) hw) ?_
                   clear hK19 K19 hK18 K18 hK17 K17 hK16 K16 hK15 K15 hK14 K14 hK5 K5 hK4 K4 hK2 K2 hK1 K1 hK0 K0
                   first | exact ⟨rfl, rfl⟩ | (refine ⟨boolE ?_, rfl⟩; simp)
                   )
                ·try simp only [decide_eq_true_eq, decide_eq_false_iff_not, Bool.not_eq_true', Bool.not_eq_false', Int.not_lt, Int.not_le, Int.toNat_natCast] at hs7
                 first
                  | (exfalso; clear hK19 K19; clear hK18 K18; clear hK17 K17; clear hK16 K16; clear hK15 K15; clear hK14 K14; clear hK5 K5; clear hK4 K4; clear hK2 K2; clear hK1 K1; clear hK0 K0; first | omega | contradiction)
                  | (
                   refine RL.guard_no rfl rfl rfl ?_
                   refine RL.guard_no rfl rfl rfl ?_
                   refine RL.guard_no rfl rfl rfl ?_
                   refine RL.st ?_
                   refine NV.p T ?_
                   refine RL.st ?_
                   refine NV.p T ?_
                   refine RL.nil _ _ _ _ ?_
                   refine hK19 _ _ _ ?_
                   refine SW.ret ?_
                   refine retQ.ret (H' := H) (RVs.tmp (by conv => lhs; whnf) RVs.nil) (fun w hw => Sat.sub (by repeat first | exact List.Sublist.refl _ | apply List.Sublist.cons_cons | apply List.Sublist.cons | exact List.sublist_append_right _ _ | refine List.Sublist.trans ?_ (List.sublist_append_right _ _)) hw) ?_
                   clear hK19 K19 hK18 K18 hK17 K17 hK16 K16 hK15 K15 hK14 K14 hK5 K5 hK4 K4 hK2 K2 hK1 K1 hK0 K0
                   first | exact ⟨rfl, rfl⟩ | (refine ⟨boolE ?_, rfl⟩; simp)
                   )
                )
             ·try simp only [decide_eq_true_eq, decide_eq_false_iff_not, Bool.not_eq_true', Bool.not_eq_false', Int.not_lt, Int.not_le, Int.toNat_natCast] at hs6
              first
               | (exfalso; clear hK19 K19; clear hK18 K18; clear hK17 K17; clear hK16 K16; clear hK15 K15; clear hK14 K14; clear hK5 K5; clear hK4 K4; clear hK2 K2; clear hK1 K1; clear hK0 K0; first | omega | contradiction)
               | (
                refine RL.guard_no rfl rfl rfl ?_
                refine RL.guard_no rfl rfl rfl ?_
                refine RL.guard_no rfl rfl rfl ?_
                refine RL.st ?_
                refine NV.p T ?_
                refine RL.st ?_
                refine NV.p T ?_
                refine RL.guard_no rfl rfl rfl ?_
                refine RL.guard_no rfl rfl rfl ?_
                refine RL.guard_no rfl rfl rfl ?_
                refine RL.st ?_
                refine NV.p T ?_
                refine RL.st ?_
                refine NV.p T ?_
                refine RL.nil _ _ _ _ ?_
                refine hK19 _ _ _ ?_
                refine SW.ret ?_
                refine retQ.ret (H' := H) (RVs.tmp (by conv => lhs; whnf) RVs.nil) (fun w hw => Sat.sub (by repeat first | exact List.Sublist.refl _ | apply List.Sublist.cons_cons | apply List.Sublist.cons | exact List.sublist_append_right _ _ | refine List.Sublist.trans ?_ (List.sublist_append_right _ _)) hw) ?_
                clear hK19 K19 hK18 K18 hK17 K17 hK16 K16 hK15 K15 hK14 K14 hK5 K5 hK4 K4 hK2 K2 hK1 K1 hK0 K0
                first | exact ⟨rfl, rfl⟩ | (refine ⟨boolE ?_, rfl⟩; simp)
                )
             )
          ·try simp only [decide_eq_true_eq, decide_eq_false_iff_not, Bool.not_eq_true', Bool.not_eq_false', Int.not_lt, Int.not_le, Int.toNat_natCast] at hs5
           first
            | (exfalso; clear hK19 K19; clear hK18 K18; clear hK17 K17; clear hK16 K16; clear hK15 K15; clear hK14 K14; clear hK5 K5; clear hK4 K4; clear hK2 K2; clear hK1 K1; clear hK0 K0; first | omega | contradiction)
            | (
             refine RL.guard_no rfl rfl rfl ?_
             refine RL.guard_no rfl rfl rfl ?_
             refine RL.guard_no rfl rfl rfl ?_
             refine RL.st ?_
             refine NV.p T ?_
             refine RL.st ?_
             refine NV.p T ?_
             refine RL.guard_no rfl rfl rfl ?_
             refine RL.guard_no rfl rfl rfl ?_
             refine RL.guard_no rfl rfl rfl ?_
             refine RL.st ?_
             refine NV.p T ?_
             refine RL.st ?_
             refine NV.p T ?_
             refine RL.guard_no rfl rfl rfl ?_
             refine RL.guard_no rfl rfl rfl ?_
             refine RL.guard_no rfl rfl rfl ?_
             refine RL.st ?_
             refine NV.p T ?_
             refine RL.st ?_
             refine NV.p T ?_
             refine RL.nil _ _ _ _ ?_
             refine hK19 _ _ _ ?_
             refine SW.ret ?_
             refine retQ.ret (H' := H) (RVs.tmp (by conv => lhs; whnf) RVs.nil) (fun w hw => Sat.sub (by repeat first | exact List.Sublist.refl _ | apply List.Sublist.cons_cons | apply List.Sublist.cons | exact List.sublist_append_right _ _ | refine List.Sublist.trans ?_ (List.sublist_append_right _ _)) hw) ?_
             clear hK19 K19 hK18 K18 hK17 K17 hK16 K16 hK15 K15 hK14 K14 hK5 K5 hK4 K4 hK2 K2 hK1 K1 hK0 K0
             first | exact ⟨rfl, rfl⟩ | (refine ⟨boolE ?_, rfl⟩; simp)
             )
          )
       )
    )
theorem fixedPuts {w0 : World} {H : List Chunk} (prev ev : Int) (ah : Bool) (p0 : 0 ≤ prev) (sa : Option Addr) (n c : Nat) (es : List Int) (hR : ∀ H, Rd w0 H sa n c 1 (es.map (.int .u8))) (hn : n = es.length) (hm : n ≤ 140737488351232) (hb : Byte es) (sar : Option Addr) (nr cr : Nat) (esr : List Int) (hRr : ∀ H, Rd w0 H sar nr cr 1 (esr.map (.int .u8))) (hnr : nr = esr.length) (hmr : nr ≤ 140737488351232) (hbr : Byte esr) : SC Try.prog w0 4 #[.agg #[.int .u8 prev, .slice sa n c, .int .i64 ev, .bool ah], .slice sar nr cr] H (fun v H' => v = .bool true ∧ H' = H) := by
  by_cases h : (n ≤ 3000 ∨ 65536 < n) ∧ (nr ≤ 3000 ∨ 65536 < nr)
  · exact puts_ok prev ev ah p0 sa n c es hR hn hm hb sar nr cr esr hRr hnr hmr hbr h.1 h.2 (by simp; omega)
  · exact puts_no prev ev ah p0 sa n c es hR hn hm hb 0 nr cr sar (by omega)
theorem sizes_long {w0 : World} {H : List Chunk} (m ev : Int) (ah : Bool) (sa : Option Addr) (n c : Nat) (es : List Int) (hR : ∀ H, Rd w0 H sa n c 1 (es.map (.int .u8))) (hn : n = es.length) (hm : n ≤ 140737488351232) (hb : Byte es) (h : 3000 < n) : SC Try.prog w0 7 #[.int .i64 m, .agg #[.int .i64 ev, .bool ah], .slice sa n c] H (fun v H' => v = .bool true ∧ H' = H) := by
 refine SC.enter Try.func7 rfl (Nat.le_of_ble_eq_true rfl) ?_
 refine SW.seq_k ?_
 intro K0 hK0
 refine SW.region _ _ _ _ ?_
 refine RL.st ?_
 refine NV.box rfl (by exact (rfl : _ = [_, _])) ?_
 intro b4_0
 refine RL.st ?_
 refine NV.p T ?_
 refine RL.nil _ _ _ _ ?_
 refine hK0 _ _ _ ?_
 refine SW.seq_k ?_
 intro K1 hK1
 refine SW.seq_k ?_
 intro K2 hK2
 refine SW.region _ _ _ _ ?_
 refine RL.st ?_
 refine NV.call rfl rfl rfl fun9 rfl rfl (alive) ?_
 rintro _ _ ⟨rfl, e⟩; obtain rfl := e.symm
 refine RL.st ?_
 refine NV.p T ?_
 refine RL.nil _ _ _ _ ?_
 refine hK2 _ _ _ ?_
 refine SW.cond rfl (fun hc0 => ?_) (fun hc0 => ?_)
 ·try simp only [decide_eq_true_eq, decide_eq_false_iff_not, Bool.not_eq_true', Bool.not_eq_false', Int.not_lt, Int.not_le, Int.toNat_natCast] at hc0
  first
   | (exfalso; clear hK2 K2; clear hK1 K1; clear hK0 K0; first | omega | contradiction)
   | (
    refine SW.seq_k ?_
    intro K3 hK3
    refine SW.region _ _ _ _ ?_
    refine RL.st ?_
    refine NV.p T ?_
    refine RL.nil _ _ _ _ ?_
    refine hK3 _ _ _ ?_
    refine SW.ret ?_
    refine retQ.ret (H' := H) (RVs.tmp (by conv => lhs; whnf) RVs.nil) (fun w hw => Sat.sub (by repeat first | exact List.Sublist.refl _ | apply List.Sublist.cons_cons | apply List.Sublist.cons | exact List.sublist_append_right _ _ | refine List.Sublist.trans ?_ (List.sublist_append_right _ _)) hw) ?_
    clear hK3 K3 hK2 K2 hK1 K1 hK0 K0
    first | exact ⟨rfl, rfl⟩ | (refine ⟨boolE ?_, rfl⟩; simp)
    )
 ·try simp only [decide_eq_true_eq, decide_eq_false_iff_not, Bool.not_eq_true', Bool.not_eq_false', Int.not_lt, Int.not_le, Int.toNat_natCast] at hc0
  first
   | (exfalso; clear hK2 K2; clear hK1 K1; clear hK0 K0; first | omega | contradiction)
   | (
    refine SW.skip ?_
    refine hK1 _ _ _ ?_
    refine SW.seq_k ?_
    intro K4 hK4
    refine SW.seq_k ?_
    intro K5 hK5
    refine SW.region _ _ _ _ ?_
    refine RL.st ?_
    refine NV.p T ?_
    refine RL.st ?_
    refine NV.p T ?_
    refine RL.st ?_
    refine NV.p T ?_
    refine RL.nil _ _ _ _ ?_
    refine hK5 _ _ _ ?_
    refine SW.cond rfl (fun hc1 => ?_) (fun hc1 => ?_)
    ·try simp only [decide_eq_true_eq, decide_eq_false_iff_not, Bool.not_eq_true', Bool.not_eq_false', Int.not_lt, Int.not_le, Int.toNat_natCast] at hc1
     first
      | (exfalso; clear hK5 K5; clear hK4 K4; clear hK2 K2; clear hK1 K1; clear hK0 K0; first | omega | contradiction)
      | (
       refine SW.seq_k ?_
       intro K6 hK6
       refine SW.region _ _ _ _ ?_
       refine RL.st ?_
       refine NV.p T ?_
       refine RL.nil _ _ _ _ ?_
       refine hK6 _ _ _ ?_
       refine SW.ret ?_
       refine retQ.ret (H' := H) (RVs.tmp (by conv => lhs; whnf) RVs.nil) (fun w hw => Sat.sub (by repeat first | exact List.Sublist.refl _ | apply List.Sublist.cons_cons | apply List.Sublist.cons | exact List.sublist_append_right _ _ | refine List.Sublist.trans ?_ (List.sublist_append_right _ _)) hw) ?_
       clear hK6 K6 hK5 K5 hK4 K4 hK2 K2 hK1 K1 hK0 K0
       first | exact ⟨rfl, rfl⟩ | (refine ⟨boolE ?_, rfl⟩; simp)
       )
    ·try simp only [decide_eq_true_eq, decide_eq_false_iff_not, Bool.not_eq_true', Bool.not_eq_false', Int.not_lt, Int.not_le, Int.toNat_natCast] at hc1
     exfalso; clear hK5 K5; clear hK4 K4; clear hK2 K2; clear hK1 K1; clear hK0 K0; first | omega | contradiction
    )
theorem sizes_neg {w0 : World} {H : List Chunk} (m ev : Int) (ah : Bool) (sa : Option Addr) (n c : Nat) (es : List Int) (hR : ∀ H, Rd w0 H sa n c 1 (es.map (.int .u8))) (hn : n = es.length) (hm : n ≤ 140737488351232) (hb : Byte es) (h : n ≤ 3000) (hneg : m < 0) : SC Try.prog w0 7 #[.int .i64 m, .agg #[.int .i64 ev, .bool ah], .slice sa n c] H (fun v H' => v = .bool true ∧ H' = H) := by
 refine SC.enter Try.func7 rfl (Nat.le_of_ble_eq_true rfl) ?_
 refine SW.seq_k ?_
 intro K0 hK0
 refine SW.region _ _ _ _ ?_
 refine RL.st ?_
 refine NV.box rfl (by exact (rfl : _ = [_, _])) ?_
 intro b4_0
 refine RL.st ?_
 refine NV.p T ?_
 refine RL.nil _ _ _ _ ?_
 refine hK0 _ _ _ ?_
 refine SW.seq_k ?_
 intro K1 hK1
 refine SW.seq_k ?_
 intro K2 hK2
 refine SW.region _ _ _ _ ?_
 refine RL.st ?_
 refine NV.call rfl rfl rfl fun9 rfl rfl (alive) ?_
 rintro _ _ ⟨rfl, e⟩; obtain rfl := e.symm
 refine RL.st ?_
 refine NV.p T ?_
 refine RL.nil _ _ _ _ ?_
 refine hK2 _ _ _ ?_
 refine SW.cond rfl (fun hc0 => ?_) (fun hc0 => ?_)
 ·try simp only [decide_eq_true_eq, decide_eq_false_iff_not, Bool.not_eq_true', Bool.not_eq_false', Int.not_lt, Int.not_le, Int.toNat_natCast] at hc0
  first
   | (exfalso; clear hK2 K2; clear hK1 K1; clear hK0 K0; first | omega | contradiction)
   | (
    refine SW.seq_k ?_
    intro K3 hK3
    refine SW.region _ _ _ _ ?_
    refine RL.st ?_
    refine NV.p T ?_
    refine RL.nil _ _ _ _ ?_
    refine hK3 _ _ _ ?_
    refine SW.ret ?_
    refine retQ.ret (H' := H) (RVs.tmp (by conv => lhs; whnf) RVs.nil) (fun w hw => Sat.sub (by repeat first | exact List.Sublist.refl _ | apply List.Sublist.cons_cons | apply List.Sublist.cons | exact List.sublist_append_right _ _ | refine List.Sublist.trans ?_ (List.sublist_append_right _ _)) hw) ?_
    clear hK3 K3 hK2 K2 hK1 K1 hK0 K0
    first | exact ⟨rfl, rfl⟩ | (refine ⟨boolE ?_, rfl⟩; simp)
    )
 ·try simp only [decide_eq_true_eq, decide_eq_false_iff_not, Bool.not_eq_true', Bool.not_eq_false', Int.not_lt, Int.not_le, Int.toNat_natCast] at hc0
  first
   | (exfalso; clear hK2 K2; clear hK1 K1; clear hK0 K0; first | omega | contradiction)
   | (
    refine SW.skip ?_
    refine hK1 _ _ _ ?_
    refine SW.seq_k ?_
    intro K4 hK4
    refine SW.seq_k ?_
    intro K5 hK5
    refine SW.region _ _ _ _ ?_
    refine RL.st ?_
    refine NV.p T ?_
    refine RL.st ?_
    refine NV.p T ?_
    refine RL.st ?_
    refine NV.p T ?_
    refine RL.nil _ _ _ _ ?_
    refine hK5 _ _ _ ?_
    refine SW.cond rfl (fun hc1 => ?_) (fun hc1 => ?_)
    ·try simp only [decide_eq_true_eq, decide_eq_false_iff_not, Bool.not_eq_true', Bool.not_eq_false', Int.not_lt, Int.not_le, Int.toNat_natCast] at hc1
     first
      | (exfalso; clear hK5 K5; clear hK4 K4; clear hK2 K2; clear hK1 K1; clear hK0 K0; first | omega | contradiction)
      | (
       refine SW.seq_k ?_
       intro K6 hK6
       refine SW.region _ _ _ _ ?_
       refine RL.st ?_
       refine NV.p T ?_
       refine RL.nil _ _ _ _ ?_
       refine hK6 _ _ _ ?_
       refine SW.ret ?_
       refine retQ.ret (H' := H) (RVs.tmp (by conv => lhs; whnf) RVs.nil) (fun w hw => Sat.sub (by repeat first | exact List.Sublist.refl _ | apply List.Sublist.cons_cons | apply List.Sublist.cons | exact List.sublist_append_right _ _ | refine List.Sublist.trans ?_ (List.sublist_append_right _ _)) hw) ?_
       clear hK6 K6 hK5 K5 hK4 K4 hK2 K2 hK1 K1 hK0 K0
       first | exact ⟨rfl, rfl⟩ | (refine ⟨boolE ?_, rfl⟩; simp)
       )
    ·try simp only [decide_eq_true_eq, decide_eq_false_iff_not, Bool.not_eq_true', Bool.not_eq_false', Int.not_lt, Int.not_le, Int.toNat_natCast] at hc1
     first
      | (exfalso; clear hK5 K5; clear hK4 K4; clear hK2 K2; clear hK1 K1; clear hK0 K0; first | omega | contradiction)
      | (
       refine SW.skip ?_
       refine hK4 _ _ _ ?_
       refine SW.seq_k ?_
       intro K7 hK7
       refine SW.region _ _ _ _ ?_
       refine RL.st ?_
       refine NV.p T ?_
       refine RL.st ?_
       refine NV.load_varN T rfl rfl rfl rfl rfl (by repeat first | exact At.head _ _ | assumption | exact At.put (by assumption) _ | apply At.tail | apply At.app) (by exact (rfl : _ = [_, _])) rfl ?_
       refine RL.st ?_
       refine NV.call rfl rfl rfl fun17 rfl rfl ((sizeV m ev ah).mono (fun v H' h => by rw [SizeV_eq] at h; exact h)) ?_
       rintro _ _ ⟨rfl, e⟩; obtain rfl := e.symm
       refine RL.st ?_
       refine NV.p T ?_
       refine RL.st ?_
       refine NV.p T ?_
       refine RL.st ?_
       refine NV.p T ?_
       refine RL.st ?_
       refine NV.p T ?_
       refine RL.st ?_
       refine NV.p T ?_
       refine RL.nil _ _ _ _ ?_
       refine hK7 _ _ _ ?_
       refine SW.seq_k ?_
       intro K8 hK8
       refine SW.region _ _ _ _ ?_
       refine RL.st ?_
       refine NV.p T ?_
       refine RL.st ?_
       refine NV.load_varN T rfl rfl rfl rfl rfl (by repeat first | exact At.head _ _ | assumption | exact At.put (by assumption) _ | apply At.tail | apply At.app) (by exact (rfl : _ = [_, _])) rfl ?_
       refine RL.st ?_
       refine NV.call rfl rfl rfl fun18 rfl rfl ((rsizeV m ev ah).mono (fun v H' h => by rw [SizeV_eq] at h; exact h)) ?_
       rintro _ _ ⟨rfl, e⟩; obtain rfl := e.symm
       refine RL.st ?_
       refine NV.p T ?_
       refine RL.st ?_
       refine NV.p T ?_
       refine RL.st ?_
       refine NV.p T ?_
       refine RL.st ?_
       refine NV.p T ?_
       refine RL.st ?_
       refine NV.p T ?_
       refine RL.nil _ _ _ _ ?_
       refine hK8 _ _ _ ?_
       refine SW.seq_k ?_
       intro K9 hK9
       refine SW.region _ _ _ _ ?_
       refine RL.st ?_
       refine NV.p T ?_
       refine RL.st ?_
       refine NV.call rfl rfl rfl fun19 rfl rfl (tally_neg m hneg) ?_
       rintro _ _ ⟨rfl, e⟩; obtain rfl := e.symm
       refine RL.st ?_
       refine NV.p T ?_
       refine RL.st ?_
       refine NV.p T ?_
       refine RL.st ?_
       refine NV.p T ?_
       refine RL.st ?_
       refine NV.p T ?_
       refine RL.st ?_
       refine NV.p T ?_
       refine RL.nil _ _ _ _ ?_
       refine hK9 _ _ _ ?_
       refine SW.seq_k ?_
       intro K10 hK10
       refine SW.region _ _ _ _ ?_
       refine RL.st ?_
       refine NV.p T ?_
       refine RL.st ?_
       refine NV.call rfl rfl rfl fun20 rfl rfl (rtally_neg m hneg) ?_
       rintro _ _ ⟨rfl, e⟩; obtain rfl := e.symm
       refine RL.st ?_
       refine NV.p T ?_
       refine RL.st ?_
       refine NV.p T ?_
       refine RL.st ?_
       refine NV.p T ?_
       refine RL.st ?_
       refine NV.p T ?_
       refine RL.st ?_
       refine NV.p T ?_
       refine RL.nil _ _ _ _ ?_
       refine hK10 _ _ _ ?_
       refine SW.seq_k ?_
       intro K11 hK11
       refine SW.region _ _ _ _ ?_
       refine RL.st ?_
       refine NV.p T ?_
       refine RL.st ?_
       refine NV.call rfl rfl rfl fun21 rfl rfl (ftells sa n c es (hR _) hn hm hb) ?_
       rintro _ _ ⟨rfl, e⟩; obtain rfl := e.symm
       refine RL.st ?_
       refine NV.p T ?_
       refine RL.st ?_
       refine NV.p T ?_
       refine RL.st ?_
       refine NV.p T ?_
       refine RL.st ?_
       refine NV.p T ?_
       refine RL.st ?_
       refine NV.p T ?_
       refine RL.nil _ _ _ _ ?_
       refine hK11 _ _ _ ?_
       refine SW.seq_k ?_
       intro K12 hK12
       refine SW.region _ _ _ _ ?_
       refine RL.st ?_
       refine NV.p T ?_
       refine RL.st ?_
       refine NV.call rfl rfl rfl fun22 rfl rfl (rtells sa n c es (hR _) hn hm) ?_
       rintro _ _ ⟨rfl, e⟩; obtain rfl := e.symm
       refine RL.st ?_
       refine NV.p T ?_
       refine RL.st ?_
       refine NV.p T ?_
       refine RL.st ?_
       refine NV.p T ?_
       refine RL.st ?_
       refine NV.p T ?_
       refine RL.st ?_
       refine NV.p T ?_
       refine RL.nil _ _ _ _ ?_
       refine hK12 _ _ _ ?_
       refine SW.seq_k ?_
       intro K13 hK13
       refine SW.region _ _ _ _ ?_
       refine RL.st ?_
       refine NV.p T ?_
       refine RL.st ?_
       refine NV.p T ?_
       refine RL.st ?_
       refine NV.p T ?_
       refine RL.st ?_
       refine NV.p T ?_
       refine RL.split 59 rfl (fun hs0 => ?_) (fun hs0 => ?_)
       ·try simp only [decide_eq_true_eq, decide_eq_false_iff_not, Bool.not_eq_true', Bool.not_eq_false', Int.not_lt, Int.not_le, Int.toNat_natCast] at hs0
        first
         | (exfalso; clear hK13 K13; clear hK12 K12; clear hK11 K11; clear hK10 K10; clear hK9 K9; clear hK8 K8; clear hK7 K7; clear hK5 K5; clear hK4 K4; clear hK2 K2; clear hK1 K1; clear hK0 K0; first | omega | contradiction)
         | (
          refine RL.st ?_
          refine NV.p T ?_
          refine RL.st ?_
          refine NV.p T ?_
          refine RL.st ?_
          refine NV.p T ?_
          refine RL.st ?_
          refine NV.p T ?_
          refine RL.st ?_
          refine NV.p T ?_
          refine RL.split 64 rfl (fun hs1 => ?_) (fun hs1 => ?_)
          ·try simp only [decide_eq_true_eq, decide_eq_false_iff_not, Bool.not_eq_true', Bool.not_eq_false', Int.not_lt, Int.not_le, Int.toNat_natCast] at hs1
           first
            | (exfalso; clear hK13 K13; clear hK12 K12; clear hK11 K11; clear hK10 K10; clear hK9 K9; clear hK8 K8; clear hK7 K7; clear hK5 K5; clear hK4 K4; clear hK2 K2; clear hK1 K1; clear hK0 K0; first | omega | contradiction)
            | (
             refine RL.st ?_
             refine NV.p T ?_
             refine RL.st ?_
             refine NV.p T ?_
             refine RL.st ?_
             refine NV.call rfl rfl rfl fun12 rfl rfl ((same none none 0 0 0 0 [] [] Rd.nilS Rd.nilS rfl rfl (by omega) (by omega)).mono (fun v H' h => by rw [decide_eq_true rfl] at h; exact h)) ?_
             rintro _ _ ⟨rfl, e⟩; obtain rfl := e.symm
             refine RL.st ?_
             refine NV.p T ?_
             refine RL.st ?_
             refine NV.p T ?_
             refine RL.split 69 rfl (fun hs2 => ?_) (fun hs2 => ?_)
             ·try simp only [decide_eq_true_eq, decide_eq_false_iff_not, Bool.not_eq_true', Bool.not_eq_false', Int.not_lt, Int.not_le, Int.toNat_natCast] at hs2
              first
               | (exfalso; clear hK13 K13; clear hK12 K12; clear hK11 K11; clear hK10 K10; clear hK9 K9; clear hK8 K8; clear hK7 K7; clear hK5 K5; clear hK4 K4; clear hK2 K2; clear hK1 K1; clear hK0 K0; first | omega | contradiction)
               | (
                refine RL.st ?_
                refine NV.p T ?_
                refine RL.st ?_
                refine NV.p T ?_
                refine RL.st ?_
                refine NV.p T ?_
                refine RL.st ?_
                refine NV.p T ?_
                refine RL.st ?_
                refine NV.p T ?_
                refine RL.split 74 rfl (fun hs3 => ?_) (fun hs3 => ?_)
                ·try simp only [decide_eq_true_eq, decide_eq_false_iff_not, Bool.not_eq_true', Bool.not_eq_false', Int.not_lt, Int.not_le, Int.toNat_natCast] at hs3
                 first
                  | (exfalso; clear hK13 K13; clear hK12 K12; clear hK11 K11; clear hK10 K10; clear hK9 K9; clear hK8 K8; clear hK7 K7; clear hK5 K5; clear hK4 K4; clear hK2 K2; clear hK1 K1; clear hK0 K0; first | omega | contradiction)
                  | (
                   refine RL.st ?_
                   refine NV.p T ?_
                   refine RL.st ?_
                   refine NV.p T ?_
                   refine RL.st ?_
                   refine NV.p T ?_
                   refine RL.st ?_
                   refine NV.p T ?_
                   refine RL.st ?_
                   refine NV.p T ?_
                   refine RL.split 79 rfl (fun hs4 => ?_) (fun hs4 => ?_)
                   ·try simp only [decide_eq_true_eq, decide_eq_false_iff_not, Bool.not_eq_true', Bool.not_eq_false', Int.not_lt, Int.not_le, Int.toNat_natCast] at hs4
                    first
                     | (exfalso; clear hK13 K13; clear hK12 K12; clear hK11 K11; clear hK10 K10; clear hK9 K9; clear hK8 K8; clear hK7 K7; clear hK5 K5; clear hK4 K4; clear hK2 K2; clear hK1 K1; clear hK0 K0; first | omega | contradiction)
                     | (
                      refine RL.st ?_
                      refine NV.p T ?_
                      refine RL.st ?_
                      refine NV.p T ?_
                      refine RL.st ?_
                      refine NV.p T ?_
                      refine RL.st ?_
                      refine NV.p T ?_
                      refine RL.st ?_
                      refine NV.p T ?_
                      refine RL.nil _ _ _ _ ?_
                      refine hK13 _ _ _ ?_
                      refine SW.ret ?_
                      refine retQ.ret (H' := H) (RVs.tmp (by conv => lhs; whnf) RVs.nil) (fun w hw => Sat.sub (by repeat first | exact List.Sublist.refl _ | apply List.Sublist.cons_cons | apply List.Sublist.cons | exact List.sublist_append_right _ _ | refine List.Sublist.trans ?_ (List.sublist_append_right _ _)) hw) ?_
                      clear hK13 K13 hK12 K12 hK11 K11 hK10 K10 hK9 K9 hK8 K8 hK7 K7 hK5 K5 hK4 K4 hK2 K2 hK1 K1 hK0 K0
                      first | exact ⟨rfl, rfl⟩ | (refine ⟨boolE ?_, rfl⟩; simp)
                      )
                   ·try simp only [decide_eq_true_eq, decide_eq_false_iff_not, Bool.not_eq_true', Bool.not_eq_false', Int.not_lt, Int.not_le, Int.toNat_natCast] at hs4
                    first
                     | (exfalso; clear hK13 K13; clear hK12 K12; clear hK11 K11; clear hK10 K10; clear hK9 K9; clear hK8 K8; clear hK7 K7; clear hK5 K5; clear hK4 K4; clear hK2 K2; clear hK1 K1; clear hK0 K0; first | omega | contradiction)
                     | (
                      refine RL.guard_no rfl rfl rfl ?_
                      refine RL.guard_no rfl rfl rfl ?_
                      refine RL.guard_no rfl rfl rfl ?_
                      refine RL.st ?_
                      refine NV.p T ?_
                      refine RL.st ?_
                      refine NV.p T ?_
                      refine RL.nil _ _ _ _ ?_
                      refine hK13 _ _ _ ?_
                      refine SW.ret ?_
                      refine retQ.ret (H' := H) (RVs.tmp (by conv => lhs; whnf) RVs.nil) (fun w hw => Sat.sub (by repeat first | exact List.Sublist.refl _ | apply List.Sublist.cons_cons | apply List.Sublist.cons | exact List.sublist_append_right _ _ | refine List.Sublist.trans ?_ (List.sublist_append_right _ _)) hw) ?_
                      clear hK13 K13 hK12 K12 hK11 K11 hK10 K10 hK9 K9 hK8 K8 hK7 K7 hK5 K5 hK4 K4 hK2 K2 hK1 K1 hK0 K0
                      first | exact ⟨rfl, rfl⟩ | (refine ⟨boolE ?_, rfl⟩; simp)
                      )
                   )
                ·try simp only [decide_eq_true_eq, decide_eq_false_iff_not, Bool.not_eq_true', Bool.not_eq_false', Int.not_lt, Int.not_le, Int.toNat_natCast] at hs3
                 first
                  | (exfalso; clear hK13 K13; clear hK12 K12; clear hK11 K11; clear hK10 K10; clear hK9 K9; clear hK8 K8; clear hK7 K7; clear hK5 K5; clear hK4 K4; clear hK2 K2; clear hK1 K1; clear hK0 K0; first | omega | contradiction)
                  | (
                   refine RL.guard_no rfl rfl rfl ?_
                   refine RL.guard_no rfl rfl rfl ?_
                   refine RL.guard_no rfl rfl rfl ?_
                   refine RL.st ?_
                   refine NV.p T ?_
                   refine RL.st ?_
                   refine NV.p T ?_
                   refine RL.guard_no rfl rfl rfl ?_
                   refine RL.guard_no rfl rfl rfl ?_
                   refine RL.guard_no rfl rfl rfl ?_
                   refine RL.st ?_
                   refine NV.p T ?_
                   refine RL.st ?_
                   refine NV.p T ?_
                   refine RL.nil _ _ _ _ ?_
                   refine hK13 _ _ _ ?_
                   refine SW.ret ?_
                   refine retQ.ret (H' := H) (RVs.tmp (by conv => lhs; whnf) RVs.nil) (fun w hw => Sat.sub (by repeat first | exact List.Sublist.refl _ | apply List.Sublist.cons_cons | apply List.Sublist.cons | exact List.sublist_append_right _ _ | refine List.Sublist.trans ?_ (List.sublist_append_right _ _)) hw) ?_
                   clear hK13 K13 hK12 K12 hK11 K11 hK10 K10 hK9 K9 hK8 K8 hK7 K7 hK5 K5 hK4 K4 hK2 K2 hK1 K1 hK0 K0
                   first | exact ⟨rfl, rfl⟩ | (refine ⟨boolE ?_, rfl⟩; simp)
                   )
                )
             ·try simp only [decide_eq_true_eq, decide_eq_false_iff_not, Bool.not_eq_true', Bool.not_eq_false', Int.not_lt, Int.not_le, Int.toNat_natCast] at hs2
              first
               | (exfalso; clear hK13 K13; clear hK12 K12; clear hK11 K11; clear hK10 K10; clear hK9 K9; clear hK8 K8; clear hK7 K7; clear hK5 K5; clear hK4 K4; clear hK2 K2; clear hK1 K1; clear hK0 K0; first | omega | contradiction)
               | (
                refine RL.guard_no rfl rfl rfl ?_
                refine RL.guard_no rfl rfl rfl ?_
                refine RL.guard_no rfl rfl rfl ?_
                refine RL.st ?_
                refine NV.p T ?_
                refine RL.st ?_
                refine NV.p T ?_
                refine RL.guard_no rfl rfl rfl ?_
                refine RL.guard_no rfl rfl rfl ?_
                refine RL.guard_no rfl rfl rfl ?_
                refine RL.st ?_
                refine NV.p T ?_
                refine RL.st ?_
                refine NV.p T ?_
                refine RL.guard_no rfl rfl rfl ?_
                refine RL.guard_no rfl rfl rfl ?_
                refine RL.guard_no rfl rfl rfl ?_
                refine RL.st ?_
                refine NV.p T ?_
                refine RL.st ?_
                refine NV.p T ?_
                refine RL.nil _ _ _ _ ?_
                refine hK13 _ _ _ ?_
                refine SW.ret ?_
                refine retQ.ret (H' := H) (RVs.tmp (by conv => lhs; whnf) RVs.nil) (fun w hw => Sat.sub (by repeat first | exact List.Sublist.refl _ | apply List.Sublist.cons_cons | apply List.Sublist.cons | exact List.sublist_append_right _ _ | refine List.Sublist.trans ?_ (List.sublist_append_right _ _)) hw) ?_
                clear hK13 K13 hK12 K12 hK11 K11 hK10 K10 hK9 K9 hK8 K8 hK7 K7 hK5 K5 hK4 K4 hK2 K2 hK1 K1 hK0 K0
                first | exact ⟨rfl, rfl⟩ | (refine ⟨boolE ?_, rfl⟩; simp)
                )
             )
          ·try simp only [decide_eq_true_eq, decide_eq_false_iff_not, Bool.not_eq_true', Bool.not_eq_false', Int.not_lt, Int.not_le, Int.toNat_natCast] at hs1
           first
            | (exfalso; clear hK13 K13; clear hK12 K12; clear hK11 K11; clear hK10 K10; clear hK9 K9; clear hK8 K8; clear hK7 K7; clear hK5 K5; clear hK4 K4; clear hK2 K2; clear hK1 K1; clear hK0 K0; first | omega | contradiction)
            | (
             refine RL.guard_no rfl rfl rfl ?_
             refine RL.guard_no rfl rfl rfl ?_
             refine RL.guard_no rfl rfl rfl ?_
             refine RL.st ?_
             refine NV.p T ?_
             refine RL.st ?_
             refine NV.p T ?_
             refine RL.guard_no rfl rfl rfl ?_
             refine RL.guard_no rfl rfl rfl ?_
             refine RL.guard_no rfl rfl rfl ?_
             refine RL.st ?_
             refine NV.p T ?_
             refine RL.st ?_
             refine NV.p T ?_
             refine RL.guard_no rfl rfl rfl ?_
             refine RL.guard_no rfl rfl rfl ?_
             refine RL.guard_no rfl rfl rfl ?_
             refine RL.st ?_
             refine NV.p T ?_
             refine RL.st ?_
             refine NV.p T ?_
             refine RL.guard_no rfl rfl rfl ?_
             refine RL.guard_no rfl rfl rfl ?_
             refine RL.guard_no rfl rfl rfl ?_
             refine RL.st ?_
             refine NV.p T ?_
             refine RL.st ?_
             refine NV.p T ?_
             refine RL.nil _ _ _ _ ?_
             refine hK13 _ _ _ ?_
             refine SW.ret ?_
             refine retQ.ret (H' := H) (RVs.tmp (by conv => lhs; whnf) RVs.nil) (fun w hw => Sat.sub (by repeat first | exact List.Sublist.refl _ | apply List.Sublist.cons_cons | apply List.Sublist.cons | exact List.sublist_append_right _ _ | refine List.Sublist.trans ?_ (List.sublist_append_right _ _)) hw) ?_
             clear hK13 K13 hK12 K12 hK11 K11 hK10 K10 hK9 K9 hK8 K8 hK7 K7 hK5 K5 hK4 K4 hK2 K2 hK1 K1 hK0 K0
             first | exact ⟨rfl, rfl⟩ | (refine ⟨boolE ?_, rfl⟩; simp)
             )
          )
       ·try simp only [decide_eq_true_eq, decide_eq_false_iff_not, Bool.not_eq_true', Bool.not_eq_false', Int.not_lt, Int.not_le, Int.toNat_natCast] at hs0
        first
         | (exfalso; clear hK13 K13; clear hK12 K12; clear hK11 K11; clear hK10 K10; clear hK9 K9; clear hK8 K8; clear hK7 K7; clear hK5 K5; clear hK4 K4; clear hK2 K2; clear hK1 K1; clear hK0 K0; first | omega | contradiction)
         | (
          refine RL.guard_no rfl rfl rfl ?_
          refine RL.guard_no rfl rfl rfl ?_
          refine RL.guard_no rfl rfl rfl ?_
          refine RL.st ?_
          refine NV.p T ?_
          refine RL.st ?_
          refine NV.p T ?_
          refine RL.guard_no rfl rfl rfl ?_
          refine RL.guard_no rfl rfl rfl ?_
          refine RL.guard_no rfl rfl rfl ?_
          refine RL.st ?_
          refine NV.p T ?_
          refine RL.st ?_
          refine NV.p T ?_
          refine RL.guard_no rfl rfl rfl ?_
          refine RL.guard_no rfl rfl rfl ?_
          refine RL.guard_no rfl rfl rfl ?_
          refine RL.st ?_
          refine NV.p T ?_
          refine RL.st ?_
          refine NV.p T ?_
          refine RL.guard_no rfl rfl rfl ?_
          refine RL.guard_no rfl rfl rfl ?_
          refine RL.guard_no rfl rfl rfl ?_
          refine RL.st ?_
          refine NV.p T ?_
          refine RL.st ?_
          refine NV.p T ?_
          refine RL.guard_no rfl rfl rfl ?_
          refine RL.guard_no rfl rfl rfl ?_
          refine RL.guard_no rfl rfl rfl ?_
          refine RL.st ?_
          refine NV.p T ?_
          refine RL.st ?_
          refine NV.p T ?_
          refine RL.nil _ _ _ _ ?_
          refine hK13 _ _ _ ?_
          refine SW.ret ?_
          refine retQ.ret (H' := H) (RVs.tmp (by conv => lhs; whnf) RVs.nil) (fun w hw => Sat.sub (by repeat first | exact List.Sublist.refl _ | apply List.Sublist.cons_cons | apply List.Sublist.cons | exact List.sublist_append_right _ _ | refine List.Sublist.trans ?_ (List.sublist_append_right _ _)) hw) ?_
          clear hK13 K13 hK12 K12 hK11 K11 hK10 K10 hK9 K9 hK8 K8 hK7 K7 hK5 K5 hK4 K4 hK2 K2 hK1 K1 hK0 K0
          first | exact ⟨rfl, rfl⟩ | (refine ⟨boolE ?_, rfl⟩; simp)
          )
       )
    )
theorem sizes_pos {w0 : World} {H : List Chunk} (m ev : Int) (ah : Bool) (sa : Option Addr) (n c : Nat) (es : List Int) (hR : ∀ H, Rd w0 H sa n c 1 (es.map (.int .u8))) (hn : n = es.length) (hm : n ≤ 140737488351232) (hb : Byte es) (h : n ≤ 3000) (hpos : 0 ≤ m) : SC Try.prog w0 7 #[.int .i64 m, .agg #[.int .i64 ev, .bool ah], .slice sa n c] H (fun v H' => v = .bool true ∧ H' = H) := by
 refine SC.enter Try.func7 rfl (Nat.le_of_ble_eq_true rfl) ?_
 refine SW.seq_k ?_
 intro K0 hK0
 refine SW.region _ _ _ _ ?_
 refine RL.st ?_
 refine NV.box rfl (by exact (rfl : _ = [_, _])) ?_
 intro b4_0
 refine RL.st ?_
 refine NV.p T ?_
 refine RL.nil _ _ _ _ ?_
 refine hK0 _ _ _ ?_
 refine SW.seq_k ?_
 intro K1 hK1
 refine SW.seq_k ?_
 intro K2 hK2
 refine SW.region _ _ _ _ ?_
 refine RL.st ?_
 refine NV.call rfl rfl rfl fun9 rfl rfl (alive) ?_
 rintro _ _ ⟨rfl, e⟩; obtain rfl := e.symm
 refine RL.st ?_
 refine NV.p T ?_
 refine RL.nil _ _ _ _ ?_
 refine hK2 _ _ _ ?_
 refine SW.cond rfl (fun hc0 => ?_) (fun hc0 => ?_)
 ·try simp only [decide_eq_true_eq, decide_eq_false_iff_not, Bool.not_eq_true', Bool.not_eq_false', Int.not_lt, Int.not_le, Int.toNat_natCast] at hc0
  first
   | (exfalso; clear hK2 K2; clear hK1 K1; clear hK0 K0; first | omega | contradiction)
   | (
    refine SW.seq_k ?_
    intro K3 hK3
    refine SW.region _ _ _ _ ?_
    refine RL.st ?_
    refine NV.p T ?_
    refine RL.nil _ _ _ _ ?_
    refine hK3 _ _ _ ?_
    refine SW.ret ?_
    refine retQ.ret (H' := H) (RVs.tmp (by conv => lhs; whnf) RVs.nil) (fun w hw => Sat.sub (by repeat first | exact List.Sublist.refl _ | apply List.Sublist.cons_cons | apply List.Sublist.cons | exact List.sublist_append_right _ _ | refine List.Sublist.trans ?_ (List.sublist_append_right _ _)) hw) ?_
    clear hK3 K3 hK2 K2 hK1 K1 hK0 K0
    first | exact ⟨rfl, rfl⟩ | (refine ⟨boolE ?_, rfl⟩; simp)
    )
 ·try simp only [decide_eq_true_eq, decide_eq_false_iff_not, Bool.not_eq_true', Bool.not_eq_false', Int.not_lt, Int.not_le, Int.toNat_natCast] at hc0
  first
   | (exfalso; clear hK2 K2; clear hK1 K1; clear hK0 K0; first | omega | contradiction)
   | (
    refine SW.skip ?_
    refine hK1 _ _ _ ?_
    refine SW.seq_k ?_
    intro K4 hK4
    refine SW.seq_k ?_
    intro K5 hK5
    refine SW.region _ _ _ _ ?_
    refine RL.st ?_
    refine NV.p T ?_
    refine RL.st ?_
    refine NV.p T ?_
    refine RL.st ?_
    refine NV.p T ?_
    refine RL.nil _ _ _ _ ?_
    refine hK5 _ _ _ ?_
    refine SW.cond rfl (fun hc1 => ?_) (fun hc1 => ?_)
    ·try simp only [decide_eq_true_eq, decide_eq_false_iff_not, Bool.not_eq_true', Bool.not_eq_false', Int.not_lt, Int.not_le, Int.toNat_natCast] at hc1
     first
      | (exfalso; clear hK5 K5; clear hK4 K4; clear hK2 K2; clear hK1 K1; clear hK0 K0; first | omega | contradiction)
      | (
       refine SW.seq_k ?_
       intro K6 hK6
       refine SW.region _ _ _ _ ?_
       refine RL.st ?_
       refine NV.p T ?_
       refine RL.nil _ _ _ _ ?_
       refine hK6 _ _ _ ?_
       refine SW.ret ?_
       refine retQ.ret (H' := H) (RVs.tmp (by conv => lhs; whnf) RVs.nil) (fun w hw => Sat.sub (by repeat first | exact List.Sublist.refl _ | apply List.Sublist.cons_cons | apply List.Sublist.cons | exact List.sublist_append_right _ _ | refine List.Sublist.trans ?_ (List.sublist_append_right _ _)) hw) ?_
       clear hK6 K6 hK5 K5 hK4 K4 hK2 K2 hK1 K1 hK0 K0
       first | exact ⟨rfl, rfl⟩ | (refine ⟨boolE ?_, rfl⟩; simp)
       )
    ·try simp only [decide_eq_true_eq, decide_eq_false_iff_not, Bool.not_eq_true', Bool.not_eq_false', Int.not_lt, Int.not_le, Int.toNat_natCast] at hc1
     first
      | (exfalso; clear hK5 K5; clear hK4 K4; clear hK2 K2; clear hK1 K1; clear hK0 K0; first | omega | contradiction)
      | (
       refine SW.skip ?_
       refine hK4 _ _ _ ?_
       refine SW.seq_k ?_
       intro K7 hK7
       refine SW.region _ _ _ _ ?_
       refine RL.st ?_
       refine NV.p T ?_
       refine RL.st ?_
       refine NV.load_varN T rfl rfl rfl rfl rfl (by repeat first | exact At.head _ _ | assumption | exact At.put (by assumption) _ | apply At.tail | apply At.app) (by exact (rfl : _ = [_, _])) rfl ?_
       refine RL.st ?_
       refine NV.call rfl rfl rfl fun17 rfl rfl ((sizeV m ev ah).mono (fun v H' h => by rw [SizeV_eq] at h; exact h)) ?_
       rintro _ _ ⟨rfl, e⟩; obtain rfl := e.symm
       refine RL.st ?_
       refine NV.p T ?_
       refine RL.st ?_
       refine NV.p T ?_
       refine RL.st ?_
       refine NV.p T ?_
       refine RL.st ?_
       refine NV.p T ?_
       refine RL.st ?_
       refine NV.p T ?_
       refine RL.nil _ _ _ _ ?_
       refine hK7 _ _ _ ?_
       refine SW.seq_k ?_
       intro K8 hK8
       refine SW.region _ _ _ _ ?_
       refine RL.st ?_
       refine NV.p T ?_
       refine RL.st ?_
       refine NV.load_varN T rfl rfl rfl rfl rfl (by repeat first | exact At.head _ _ | assumption | exact At.put (by assumption) _ | apply At.tail | apply At.app) (by exact (rfl : _ = [_, _])) rfl ?_
       refine RL.st ?_
       refine NV.call rfl rfl rfl fun18 rfl rfl ((rsizeV m ev ah).mono (fun v H' h => by rw [SizeV_eq] at h; exact h)) ?_
       rintro _ _ ⟨rfl, e⟩; obtain rfl := e.symm
       refine RL.st ?_
       refine NV.p T ?_
       refine RL.st ?_
       refine NV.p T ?_
       refine RL.st ?_
       refine NV.p T ?_
       refine RL.st ?_
       refine NV.p T ?_
       refine RL.st ?_
       refine NV.p T ?_
       refine RL.nil _ _ _ _ ?_
       refine hK8 _ _ _ ?_
       refine SW.seq_k ?_
       intro K9 hK9
       refine SW.region _ _ _ _ ?_
       refine RL.st ?_
       refine NV.p T ?_
       refine RL.st ?_
       refine NV.call rfl rfl rfl fun19 rfl rfl (tally m hpos) ?_
       rintro _ _ ⟨s1, k1, rfl, e⟩; obtain rfl := e.symm
       refine RL.st ?_
       refine NV.p T ?_
       refine RL.st ?_
       refine NV.p T ?_
       refine RL.st ?_
       refine NV.p T ?_
       refine RL.st ?_
       refine NV.p T ?_
       refine RL.st ?_
       refine NV.p T ?_
       refine RL.nil _ _ _ _ ?_
       refine hK9 _ _ _ ?_
       refine SW.seq_k ?_
       intro K10 hK10
       refine SW.region _ _ _ _ ?_
       refine RL.st ?_
       refine NV.p T ?_
       refine RL.st ?_
       refine NV.call rfl rfl rfl fun20 rfl rfl (rtally m hpos) ?_
       rintro _ _ ⟨_, rfl, a2, n2, c2, rfl, hn2, hR2, G2, e⟩; obtain rfl := e.symm
       refine RL.st ?_
       refine NV.p T ?_
       refine RL.st ?_
       refine NV.p T ?_
       refine RL.st ?_
       refine NV.p T ?_
       refine RL.st ?_
       refine NV.p T ?_
       refine RL.st ?_
       refine NV.p T ?_
       refine RL.nil _ _ _ _ ?_
       refine hK10 _ _ _ ?_
       refine SW.seq_k ?_
       intro K11 hK11
       refine SW.region _ _ _ _ ?_
       refine RL.st ?_
       refine NV.p T ?_
       refine RL.st ?_
       refine NV.call rfl rfl rfl fun21 rfl rfl (ftells sa n c es (hR _) hn hm hb) ?_
       rintro _ _ ⟨rfl, e⟩; obtain rfl := e.symm
       refine RL.st ?_
       refine NV.p T ?_
       refine RL.st ?_
       refine NV.p T ?_
       refine RL.st ?_
       refine NV.p T ?_
       refine RL.st ?_
       refine NV.p T ?_
       refine RL.st ?_
       refine NV.p T ?_
       refine RL.nil _ _ _ _ ?_
       refine hK11 _ _ _ ?_
       refine SW.seq_k ?_
       intro K12 hK12
       refine SW.region _ _ _ _ ?_
       refine RL.st ?_
       refine NV.p T ?_
       refine RL.st ?_
       refine NV.call rfl rfl rfl fun22 rfl rfl (rtells sa n c es (hR _) hn hm) ?_
       rintro _ _ ⟨rfl, e⟩; obtain rfl := e.symm
       refine RL.st ?_
       refine NV.p T ?_
       refine RL.st ?_
       refine NV.p T ?_
       refine RL.st ?_
       refine NV.p T ?_
       refine RL.st ?_
       refine NV.p T ?_
       refine RL.st ?_
       refine NV.p T ?_
       refine RL.nil _ _ _ _ ?_
       refine hK12 _ _ _ ?_
       refine SW.seq_k ?_
       intro K13 hK13
       refine SW.region _ _ _ _ ?_
       refine RL.st ?_
       refine NV.p T ?_
       refine RL.st ?_
       refine NV.p T ?_
       refine RL.st ?_
       refine NV.p T ?_
       refine RL.st ?_
       refine NV.p T ?_
       refine RL.split 59 rfl (fun hs0 => ?_) (fun hs0 => ?_)
       ·try simp only [decide_eq_true_eq, decide_eq_false_iff_not, Bool.not_eq_true', Bool.not_eq_false', Int.not_lt, Int.not_le, Int.toNat_natCast] at hs0
        first
         | (exfalso; clear hK13 K13; clear hK12 K12; clear hK11 K11; clear hK10 K10; clear hK9 K9; clear hK8 K8; clear hK7 K7; clear hK5 K5; clear hK4 K4; clear hK2 K2; clear hK1 K1; clear hK0 K0; first | omega | contradiction)
         | (
          refine RL.st ?_
          refine NV.p T ?_
          refine RL.st ?_
          refine NV.p T ?_
          refine RL.st ?_
          refine NV.p T ?_
          refine RL.st ?_
          refine NV.p T ?_
          refine RL.st ?_
          refine NV.p T ?_
          refine RL.split 64 rfl (fun hs1 => ?_) (fun hs1 => ?_)
          ·try simp only [decide_eq_true_eq, decide_eq_false_iff_not, Bool.not_eq_true', Bool.not_eq_false', Int.not_lt, Int.not_le, Int.toNat_natCast] at hs1
           first
            | (exfalso; clear hK13 K13; clear hK12 K12; clear hK11 K11; clear hK10 K10; clear hK9 K9; clear hK8 K8; clear hK7 K7; clear hK5 K5; clear hK4 K4; clear hK2 K2; clear hK1 K1; clear hK0 K0; first | omega | contradiction)
            | (
             refine RL.st ?_
             refine NV.p T ?_
             refine RL.st ?_
             refine NV.p T ?_
             refine RL.st ?_
             refine NV.sat (fun hs => ?_) (fun c hc => by cases hc)
             refine NV.call rfl rfl rfl fun12 rfl rfl ((same _ _ _ _ _ _ _ _ (Rd.row (by repeat first | exact At.head _ _ | apply At.tail | apply At.app) hs) (by repeat first | exact hR2 | apply Rd.cons | apply Rd.app) (by unfold tallyT; split <;> rfl) hn2 (by omega) (by rw [hn2]; unfold tallyT; split <;> simp)).mono (fun v H' h => by rw [decide_eq_true rfl] at h; exact h)) ?_
             rintro _ _ ⟨rfl, e⟩; obtain rfl := e.symm
             refine RL.st ?_
             refine NV.p T ?_
             refine RL.st ?_
             refine NV.p T ?_
             refine RL.split 69 rfl (fun hs2 => ?_) (fun hs2 => ?_)
             ·try simp only [decide_eq_true_eq, decide_eq_false_iff_not, Bool.not_eq_true', Bool.not_eq_false', Int.not_lt, Int.not_le, Int.toNat_natCast] at hs2
              first
               | (exfalso; clear hK13 K13; clear hK12 K12; clear hK11 K11; clear hK10 K10; clear hK9 K9; clear hK8 K8; clear hK7 K7; clear hK5 K5; clear hK4 K4; clear hK2 K2; clear hK1 K1; clear hK0 K0; first | omega | contradiction)
               | (
                refine RL.st ?_
                refine NV.p T ?_
                refine RL.st ?_
                refine NV.p T ?_
                refine RL.st ?_
                refine NV.p T ?_
                refine RL.st ?_
                refine NV.p T ?_
                refine RL.st ?_
                refine NV.p T ?_
                refine RL.split 74 rfl (fun hs3 => ?_) (fun hs3 => ?_)
                ·try simp only [decide_eq_true_eq, decide_eq_false_iff_not, Bool.not_eq_true', Bool.not_eq_false', Int.not_lt, Int.not_le, Int.toNat_natCast] at hs3
                 first
                  | (exfalso; clear hK13 K13; clear hK12 K12; clear hK11 K11; clear hK10 K10; clear hK9 K9; clear hK8 K8; clear hK7 K7; clear hK5 K5; clear hK4 K4; clear hK2 K2; clear hK1 K1; clear hK0 K0; first | omega | contradiction)
                  | (
                   refine RL.st ?_
                   refine NV.p T ?_
                   refine RL.st ?_
                   refine NV.p T ?_
                   refine RL.st ?_
                   refine NV.p T ?_
                   refine RL.st ?_
                   refine NV.p T ?_
                   refine RL.st ?_
                   refine NV.p T ?_
                   refine RL.split 79 rfl (fun hs4 => ?_) (fun hs4 => ?_)
                   ·try simp only [decide_eq_true_eq, decide_eq_false_iff_not, Bool.not_eq_true', Bool.not_eq_false', Int.not_lt, Int.not_le, Int.toNat_natCast] at hs4
                    first
                     | (exfalso; clear hK13 K13; clear hK12 K12; clear hK11 K11; clear hK10 K10; clear hK9 K9; clear hK8 K8; clear hK7 K7; clear hK5 K5; clear hK4 K4; clear hK2 K2; clear hK1 K1; clear hK0 K0; first | omega | contradiction)
                     | (
                      refine RL.st ?_
                      refine NV.p T ?_
                      refine RL.st ?_
                      refine NV.p T ?_
                      refine RL.st ?_
                      refine NV.p T ?_
                      refine RL.st ?_
                      refine NV.p T ?_
                      refine RL.st ?_
                      refine NV.p T ?_
                      refine RL.nil _ _ _ _ ?_
                      refine hK13 _ _ _ ?_
                      refine SW.ret ?_
                      refine retQ.ret (H' := H) (RVs.tmp (by conv => lhs; whnf) RVs.nil) (fun w hw => Sat.sub (by repeat first | exact List.Sublist.refl _ | apply List.Sublist.cons_cons | apply List.Sublist.cons | exact List.sublist_append_right _ _ | refine List.Sublist.trans ?_ (List.sublist_append_right _ _)) hw) ?_
                      clear hK13 K13 hK12 K12 hK11 K11 hK10 K10 hK9 K9 hK8 K8 hK7 K7 hK5 K5 hK4 K4 hK2 K2 hK1 K1 hK0 K0
                      first | exact ⟨rfl, rfl⟩ | (refine ⟨boolE ?_, rfl⟩; simp)
                      )
                   ·try simp only [decide_eq_true_eq, decide_eq_false_iff_not, Bool.not_eq_true', Bool.not_eq_false', Int.not_lt, Int.not_le, Int.toNat_natCast] at hs4
                    first
                     | (exfalso; clear hK13 K13; clear hK12 K12; clear hK11 K11; clear hK10 K10; clear hK9 K9; clear hK8 K8; clear hK7 K7; clear hK5 K5; clear hK4 K4; clear hK2 K2; clear hK1 K1; clear hK0 K0; first | omega | contradiction)
                     | (
                      refine RL.guard_no rfl rfl rfl ?_
                      refine RL.guard_no rfl rfl rfl ?_
                      refine RL.guard_no rfl rfl rfl ?_
                      refine RL.st ?_
                      refine NV.p T ?_
                      refine RL.st ?_
                      refine NV.p T ?_
                      refine RL.nil _ _ _ _ ?_
                      refine hK13 _ _ _ ?_
                      refine SW.ret ?_
                      refine retQ.ret (H' := H) (RVs.tmp (by conv => lhs; whnf) RVs.nil) (fun w hw => Sat.sub (by repeat first | exact List.Sublist.refl _ | apply List.Sublist.cons_cons | apply List.Sublist.cons | exact List.sublist_append_right _ _ | refine List.Sublist.trans ?_ (List.sublist_append_right _ _)) hw) ?_
                      clear hK13 K13 hK12 K12 hK11 K11 hK10 K10 hK9 K9 hK8 K8 hK7 K7 hK5 K5 hK4 K4 hK2 K2 hK1 K1 hK0 K0
                      first | exact ⟨rfl, rfl⟩ | (refine ⟨boolE ?_, rfl⟩; simp)
                      )
                   )
                ·try simp only [decide_eq_true_eq, decide_eq_false_iff_not, Bool.not_eq_true', Bool.not_eq_false', Int.not_lt, Int.not_le, Int.toNat_natCast] at hs3
                 first
                  | (exfalso; clear hK13 K13; clear hK12 K12; clear hK11 K11; clear hK10 K10; clear hK9 K9; clear hK8 K8; clear hK7 K7; clear hK5 K5; clear hK4 K4; clear hK2 K2; clear hK1 K1; clear hK0 K0; first | omega | contradiction)
                  | (
                   refine RL.guard_no rfl rfl rfl ?_
                   refine RL.guard_no rfl rfl rfl ?_
                   refine RL.guard_no rfl rfl rfl ?_
                   refine RL.st ?_
                   refine NV.p T ?_
                   refine RL.st ?_
                   refine NV.p T ?_
                   refine RL.guard_no rfl rfl rfl ?_
                   refine RL.guard_no rfl rfl rfl ?_
                   refine RL.guard_no rfl rfl rfl ?_
                   refine RL.st ?_
                   refine NV.p T ?_
                   refine RL.st ?_
                   refine NV.p T ?_
                   refine RL.nil _ _ _ _ ?_
                   refine hK13 _ _ _ ?_
                   refine SW.ret ?_
                   refine retQ.ret (H' := H) (RVs.tmp (by conv => lhs; whnf) RVs.nil) (fun w hw => Sat.sub (by repeat first | exact List.Sublist.refl _ | apply List.Sublist.cons_cons | apply List.Sublist.cons | exact List.sublist_append_right _ _ | refine List.Sublist.trans ?_ (List.sublist_append_right _ _)) hw) ?_
                   clear hK13 K13 hK12 K12 hK11 K11 hK10 K10 hK9 K9 hK8 K8 hK7 K7 hK5 K5 hK4 K4 hK2 K2 hK1 K1 hK0 K0
                   first | exact ⟨rfl, rfl⟩ | (refine ⟨boolE ?_, rfl⟩; simp)
                   )
                )
             ·try simp only [decide_eq_true_eq, decide_eq_false_iff_not, Bool.not_eq_true', Bool.not_eq_false', Int.not_lt, Int.not_le, Int.toNat_natCast] at hs2
              first
               | (exfalso; clear hK13 K13; clear hK12 K12; clear hK11 K11; clear hK10 K10; clear hK9 K9; clear hK8 K8; clear hK7 K7; clear hK5 K5; clear hK4 K4; clear hK2 K2; clear hK1 K1; clear hK0 K0; first | omega | contradiction)
               | (
                refine RL.guard_no rfl rfl rfl ?_
                refine RL.guard_no rfl rfl rfl ?_
                refine RL.guard_no rfl rfl rfl ?_
                refine RL.st ?_
                refine NV.p T ?_
                refine RL.st ?_
                refine NV.p T ?_
                refine RL.guard_no rfl rfl rfl ?_
                refine RL.guard_no rfl rfl rfl ?_
                refine RL.guard_no rfl rfl rfl ?_
                refine RL.st ?_
                refine NV.p T ?_
                refine RL.st ?_
                refine NV.p T ?_
                refine RL.guard_no rfl rfl rfl ?_
                refine RL.guard_no rfl rfl rfl ?_
                refine RL.guard_no rfl rfl rfl ?_
                refine RL.st ?_
                refine NV.p T ?_
                refine RL.st ?_
                refine NV.p T ?_
                refine RL.nil _ _ _ _ ?_
                refine hK13 _ _ _ ?_
                refine SW.ret ?_
                refine retQ.ret (H' := H) (RVs.tmp (by conv => lhs; whnf) RVs.nil) (fun w hw => Sat.sub (by repeat first | exact List.Sublist.refl _ | apply List.Sublist.cons_cons | apply List.Sublist.cons | exact List.sublist_append_right _ _ | refine List.Sublist.trans ?_ (List.sublist_append_right _ _)) hw) ?_
                clear hK13 K13 hK12 K12 hK11 K11 hK10 K10 hK9 K9 hK8 K8 hK7 K7 hK5 K5 hK4 K4 hK2 K2 hK1 K1 hK0 K0
                first | exact ⟨rfl, rfl⟩ | (refine ⟨boolE ?_, rfl⟩; simp)
                )
             )
          ·try simp only [decide_eq_true_eq, decide_eq_false_iff_not, Bool.not_eq_true', Bool.not_eq_false', Int.not_lt, Int.not_le, Int.toNat_natCast] at hs1
           first
            | (exfalso; clear hK13 K13; clear hK12 K12; clear hK11 K11; clear hK10 K10; clear hK9 K9; clear hK8 K8; clear hK7 K7; clear hK5 K5; clear hK4 K4; clear hK2 K2; clear hK1 K1; clear hK0 K0; first | omega | contradiction)
            | (
             refine RL.guard_no rfl rfl rfl ?_
             refine RL.guard_no rfl rfl rfl ?_
             refine RL.guard_no rfl rfl rfl ?_
             refine RL.st ?_
             refine NV.p T ?_
             refine RL.st ?_
             refine NV.p T ?_
             refine RL.guard_no rfl rfl rfl ?_
             refine RL.guard_no rfl rfl rfl ?_
             refine RL.guard_no rfl rfl rfl ?_
             refine RL.st ?_
             refine NV.p T ?_
             refine RL.st ?_
             refine NV.p T ?_
             refine RL.guard_no rfl rfl rfl ?_
             refine RL.guard_no rfl rfl rfl ?_
             refine RL.guard_no rfl rfl rfl ?_
             refine RL.st ?_
             refine NV.p T ?_
             refine RL.st ?_
             refine NV.p T ?_
             refine RL.guard_no rfl rfl rfl ?_
             refine RL.guard_no rfl rfl rfl ?_
             refine RL.guard_no rfl rfl rfl ?_
             refine RL.st ?_
             refine NV.p T ?_
             refine RL.st ?_
             refine NV.p T ?_
             refine RL.nil _ _ _ _ ?_
             refine hK13 _ _ _ ?_
             refine SW.ret ?_
             refine retQ.ret (H' := H) (RVs.tmp (by conv => lhs; whnf) RVs.nil) (fun w hw => Sat.sub (by repeat first | exact List.Sublist.refl _ | apply List.Sublist.cons_cons | apply List.Sublist.cons | exact List.sublist_append_right _ _ | refine List.Sublist.trans ?_ (List.sublist_append_right _ _)) hw) ?_
             clear hK13 K13 hK12 K12 hK11 K11 hK10 K10 hK9 K9 hK8 K8 hK7 K7 hK5 K5 hK4 K4 hK2 K2 hK1 K1 hK0 K0
             first | exact ⟨rfl, rfl⟩ | (refine ⟨boolE ?_, rfl⟩; simp)
             )
          )
       ·try simp only [decide_eq_true_eq, decide_eq_false_iff_not, Bool.not_eq_true', Bool.not_eq_false', Int.not_lt, Int.not_le, Int.toNat_natCast] at hs0
        first
         | (exfalso; clear hK13 K13; clear hK12 K12; clear hK11 K11; clear hK10 K10; clear hK9 K9; clear hK8 K8; clear hK7 K7; clear hK5 K5; clear hK4 K4; clear hK2 K2; clear hK1 K1; clear hK0 K0; first | omega | contradiction)
         | (
          refine RL.guard_no rfl rfl rfl ?_
          refine RL.guard_no rfl rfl rfl ?_
          refine RL.guard_no rfl rfl rfl ?_
          refine RL.st ?_
          refine NV.p T ?_
          refine RL.st ?_
          refine NV.p T ?_
          refine RL.guard_no rfl rfl rfl ?_
          refine RL.guard_no rfl rfl rfl ?_
          refine RL.guard_no rfl rfl rfl ?_
          refine RL.st ?_
          refine NV.p T ?_
          refine RL.st ?_
          refine NV.p T ?_
          refine RL.guard_no rfl rfl rfl ?_
          refine RL.guard_no rfl rfl rfl ?_
          refine RL.guard_no rfl rfl rfl ?_
          refine RL.st ?_
          refine NV.p T ?_
          refine RL.st ?_
          refine NV.p T ?_
          refine RL.guard_no rfl rfl rfl ?_
          refine RL.guard_no rfl rfl rfl ?_
          refine RL.guard_no rfl rfl rfl ?_
          refine RL.st ?_
          refine NV.p T ?_
          refine RL.st ?_
          refine NV.p T ?_
          refine RL.guard_no rfl rfl rfl ?_
          refine RL.guard_no rfl rfl rfl ?_
          refine RL.guard_no rfl rfl rfl ?_
          refine RL.st ?_
          refine NV.p T ?_
          refine RL.st ?_
          refine NV.p T ?_
          refine RL.nil _ _ _ _ ?_
          refine hK13 _ _ _ ?_
          refine SW.ret ?_
          refine retQ.ret (H' := H) (RVs.tmp (by conv => lhs; whnf) RVs.nil) (fun w hw => Sat.sub (by repeat first | exact List.Sublist.refl _ | apply List.Sublist.cons_cons | apply List.Sublist.cons | exact List.sublist_append_right _ _ | refine List.Sublist.trans ?_ (List.sublist_append_right _ _)) hw) ?_
          clear hK13 K13 hK12 K12 hK11 K11 hK10 K10 hK9 K9 hK8 K8 hK7 K7 hK5 K5 hK4 K4 hK2 K2 hK1 K1 hK0 K0
          first | exact ⟨rfl, rfl⟩ | (refine ⟨boolE ?_, rfl⟩; simp)
          )
       )
    )
theorem fixedSizes {w0 : World} {H : List Chunk} (m ev : Int) (ah : Bool) (sa : Option Addr) (n c : Nat) (es : List Int) (hR : ∀ H, Rd w0 H sa n c 1 (es.map (.int .u8))) (hn : n = es.length) (hm : n ≤ 140737488351232) (hb : Byte es) : SC Try.prog w0 7 #[.int .i64 m, .agg #[.int .i64 ev, .bool ah], .slice sa n c] H (fun v H' => v = .bool true ∧ H' = H) := by
  by_cases h : n ≤ 3000
  · by_cases h2 : m < 0
    · exact sizes_neg m ev ah sa n c es hR hn hm hb h h2
    · exact sizes_pos m ev ah sa n c es hR hn hm hb h (by omega)
  · exact sizes_long m ev ah sa n c es hR hn hm hb (by omega)
end Go.Proofs.Ytdcahmifalabnaa.M
