import Derived.Test.YtilffbgepliamaaProg
import Derived.Test.YtilffbgepliamaaFA3
set_option linter.unusedVariables false
set_option linter.unusedSimpArgs false
namespace Go.Proofs.Ytilffbgepliamaa.M
open Go Go.Sep Go.Proofs
set_option maxRecDepth 10000
set_option maxHeartbeats 2000000
theorem rstuffed {w0 : World} {H : List Chunk} (sa : Option Addr) (n c : Nat) (es : List Int) (hR : Rd w0 H sa n c 1 (es.map (.int .u8))) (hn : n = es.length) (hm : n ≤ 140737488351232) (h5 : n ≤ 65536) (hz : Bit es) : SC Try.prog w0 26 #[.slice sa n c] H (fun v H' => Res w0 H (stuffed es) v H') := by
 refine SC.enter Try.func26 rfl (Nat.le_of_ble_eq_true rfl) ?_
 refine SW.seq_k ?_
 intro K0 hK0
 refine SW.region _ _ _ _ ?_
 refine RL.st ?_
 refine NV.p T ?_
 refine RL.nil _ _ _ _ ?_
 refine hK0 _ _ _ ?_
 refine SW.seq_k ?_
 intro K1 hK1
 refine SW.region _ _ _ _ ?_
 refine RL.nilrow 5 1 ?_
 refine RL.st ?_
 refine NV.p T ?_
 refine RL.nil _ _ _ _ ?_
 refine hK1 _ _ _ ?_
 refine SW.seq_k ?_
 intro K2 hK2
 refine SW.seq_k ?_
 intro K3 hK3
 refine SW.region _ _ _ _ ?_
 refine RL.st ?_
 refine NV.p T ?_
 refine RL.st ?_
 refine NV.p T ?_
 refine RL.st ?_
 refine NV.p T ?_
 refine RL.nil _ _ _ _ ?_
 refine hK3 _ _ _ ?_
 refine SW.block ?_
 refine SW.loopM (fun frB mm fr ds HH => ∃ (k : Nat) (sr : Option Addr) (L cr : Nat) (o : List Int), mm = n - k ∧ (k ≤ n ∧ (L = o.length ∧ SI es k o)) ∧ FrIs [3, 5, 8, 9, 10, 11, 12, 13, 14, 15, 16, 17, 18, 19, 20, 21, 22, 23, 24, 25, 26, 27, 28] frB fr [(8, .int .i64 k), (3, .slice sr L cr)] ∧ ds = [] ∧ HH = (.row sr L cr 5 1 (o.map (.int .u8)) :: H)) (n := n - 0) ?_ ?_
 ·exact ⟨0, none, 0, 0, [], rfl, ⟨Nat.zero_le _, ⟨rfl, SI.start⟩⟩, (.cons rfl (.cons rfl (.nil (by repeat first | exact Mx.refl | exact Mx.mix | refine Mx.put rfl ?_ | refine Mx.upd rfl ?_ | refine Mx.updl rfl ?_ | refine Mx.fin rfl ?_ | refine Mx.inner rfl ?_ | refine Mx.none ?_)))), rfl, rfl⟩
 ·rintro mm fr ds HH ⟨k, sr, L, cr, o, rfl, ⟨hk, ⟨hL, hI⟩⟩, hFr, rfl, eHH⟩
  obtain rfl := eHH.symm
  obtain ⟨frU, rfl⟩ := hFr.eq
  clear hFr
  have hkn := hI.kn
  have hlen := hI.len
  have h5' := hI.r5
  have hr0 := (st_range o).1
  have hr1 := (st_range o).2
  have hzk := hz k
  have hlb := st_bit o hI.bits
  have hla : 0 < o.length → o.getD (((L : Nat) : Int) - 1).toNat 0 = (st o).1 := fun h => by rw [st_last o h]; congr 1; omega
  refine SW.seq_k ?_
  intro K4 hK4
  refine SW.region _ _ _ _ ?_
  refine RL.st ?_
  refine NV.p T ?_
  refine RL.nil _ _ _ _ ?_
  refine hK4 _ _ _ ?_
  refine SW.seq_k ?_
  intro K5 hK5
  refine SW.cond rfl (fun hc0 => ?_) (fun hc0 => ?_)
  ·try simp only [decide_eq_true_eq, decide_eq_false_iff_not, Bool.not_eq_true', Bool.not_eq_false', Int.not_lt, Int.not_le, Int.toNat_natCast] at hc0
   first
    | (exfalso; clear hK5 K5; clear hK4 K4; clear hK3 K3; clear hK2 K2; clear hK1 K1; clear hK0 K0; first | omega | contradiction)
    | (
     refine SW.skip ?_
     refine hK5 _ _ _ ?_
     refine SW.seq_k ?_
     intro K6 hK6
     refine SW.block ?_
     refine SW.seq_k ?_
     intro K7 hK7
     refine SW.region _ _ _ _ ?_
     refine RL.st ?_
     refine NV.sat (fun hs => ?_) (fun c hc => by cases hc)
     first
       | refine NV.index_array T rfl rfl rfl rfl rfl (by omega) (by omega) ?_
       | refine NV.index_slice T rfl rfl rfl rfl rfl (by first | exact hR.cons | exact hR | exact (Rd.row (by repeat first | exact At.head _ _ | apply At.tail | apply At.app) hs)) (by omega) (by omega) ?_
     refine RL.st ?_
     refine NV.sat (fun hs => ?_) (fun c hc => by cases hc)
     refine NV.load_elem T rfl rfl rfl rfl (by first | exact hR.cons | exact hR | exact (Rd.row (by repeat first | exact At.head _ _ | apply At.tail | apply At.app) hs)) (by first | exact map_as (by omega) (hla (by omega)) | exact map_get _ _ (by omega)) ?_
     refine RL.st ?_
     refine NV.p T ?_
     refine RL.nil _ _ _ _ ?_
     refine hK7 _ _ _ ?_
     refine SW.seq_k ?_
     intro K8 hK8
     refine SW.seq_k ?_
     intro K9 hK9
     refine SW.region _ _ _ _ ?_
     refine RL.st ?_
     refine NV.p T ?_
     refine RL.st ?_
     refine NV.sat (fun hs => ?_) (fun c hc => by cases hc)
     refine NV.call rfl rfl rfl fun34 rfl rfl ((rfull sr L cr (o) (Rd.row (by repeat first | exact At.head _ _ | apply At.tail | apply At.app) hs) hL (by omega)).mono (fun v H' h => by rw [full5_st] at h; exact h)) ?_
     rintro _ _ ⟨rfl, e⟩; obtain rfl := e.symm
     refine RL.nil _ _ _ _ ?_
     refine hK9 _ _ _ ?_
     refine SW.cond rfl (fun hc1 => ?_) (fun hc1 => ?_)
     ·try simp only [decide_eq_true_eq, decide_eq_false_iff_not, Bool.not_eq_true', Bool.not_eq_false', Int.not_lt, Int.not_le, Int.toNat_natCast] at hc1
      first
       | (exfalso; clear hK9 K9; clear hK8 K8; clear hK7 K7; clear hK6 K6; clear hK5 K5; clear hK4 K4; clear hK3 K3; clear hK2 K2; clear hK1 K1; clear hK0 K0; first | omega | contradiction)
       | (
        refine SW.region _ _ _ _ ?_
        refine RL.st ?_
        refine NV.p T ?_
        refine RL.st ?_
        refine NV.p T ?_
        refine RL.st ?_
        refine NV.p T ?_
        refine RL.st ?_
        refine NV.p T ?_
        refine RL.st ?_
        first | refine NV.arith rfl rfl rfl rfl (by omega) (by omega) ?_ | refine NV.p T ?_
        refine RL.st ?_
        refine NV.sat (fun hs => ?_) (fun c hc => by cases hc)
        first
          | refine NV.index_array T rfl rfl rfl rfl rfl (by omega) (by omega) ?_
          | refine NV.index_slice T rfl rfl rfl rfl rfl (by first | exact hR.cons | exact hR | exact (Rd.row (by repeat first | exact At.head _ _ | apply At.tail | apply At.app) hs)) (by omega) (by omega) ?_
        refine RL.st ?_
        refine NV.sat (fun hs => ?_) (fun c hc => by cases hc)
        refine NV.load_elem T rfl rfl rfl rfl (by first | exact hR.cons | exact hR | exact (Rd.row (by repeat first | exact At.head _ _ | apply At.tail | apply At.app) hs)) (by first | exact map_as (by omega) (hla (by omega)) | exact map_get _ _ (by omega)) ?_
        refine RL.st ?_
        first | refine NV.arith_u8 rfl rfl rfl rfl (by omega) (by omega) ?_ | refine NV.p T ?_
        refine RL.st ?_
        refine NV.build1 T rfl (by conv => lhs; whnf) rfl rfl (by conv => lhs; whnf) (by exact (rfl : _ = some [_])) ?_
        intro b22_0
        refine RL.st ?_
        first
          | refine NV.append1 T rfl rfl rfl rfl rfl rfl rfl rfl rfl rfl (by repeat first | exact At.head _ _ | assumption | exact At.put (by assumption) _ | apply At.tail | apply At.app) (ones rfl) (by first | omega | (unfold maxLen; omega)) (by first | omega | (show (_ + _) * 1 ≤ 140737488355328; omega)) ?_
          | refine NV.append T rfl rfl rfl rfl rfl rfl rfl rfl rfl rfl (by repeat first | exact At.head _ _ | assumption | exact At.put (by assumption) _ | apply At.tail | apply At.app) (by assumption) (ones rfl) (by first | omega | (unfold maxLen; omega)) (by first | omega | (show (_ + _) * 1 ≤ 140737488355328; omega)) ?_
        intro a0_ c0_
        refine RL.st ?_
        refine NV.p T ?_
        refine RL.nil _ _ _ _ ?_
        refine hK8 _ _ _ ?_
        refine SW.region _ _ _ _ ?_
        refine RL.st ?_
        refine NV.p T ?_
        refine RL.st ?_
        refine NV.p T ?_
        refine RL.st ?_
        refine NV.build1 T rfl (by conv => lhs; whnf) rfl rfl (by conv => lhs; whnf) (by exact (rfl : _ = some [_])) ?_
        intro b26_1
        refine RL.st ?_
        first
          | refine NV.append1 T rfl rfl rfl rfl rfl rfl rfl rfl rfl rfl (by repeat first | exact At.head _ _ | assumption | exact At.put (by assumption) _ | apply At.tail | apply At.app) (ones rfl) (by first | omega | (unfold maxLen; omega)) (by first | omega | (show (_ + _) * 1 ≤ 140737488355328; omega)) ?_
          | refine NV.append T rfl rfl rfl rfl rfl rfl rfl rfl rfl rfl (by repeat first | exact At.head _ _ | assumption | exact At.put (by assumption) _ | apply At.tail | apply At.app) (by assumption) (ones rfl) (by first | omega | (unfold maxLen; omega)) (by first | omega | (show (_ + _) * 1 ≤ 140737488355328; omega)) ?_
        intro a1_ c1_
        refine RL.st ?_
        refine NV.p T ?_
        refine RL.nil _ _ _ _ ?_
        refine hK6 _ _ _ ?_
        refine SW.region _ _ _ _ ?_
        refine RL.st ?_
        first | refine NV.arith rfl rfl rfl rfl (by omega) (by omega) ?_ | refine NV.p T ?_
        refine RL.st ?_
        refine NV.p T ?_
        refine RL.nil _ _ _ _ ?_
        first
          | exact ⟨n - (k + 1), (by omega), k + 1, _, _, _, o ++ [1 - (st o).1] ++ [es.getD k 0], (by rfl), ⟨by omega, ⟨by simp; omega, hI.stuff (by omega) hzk (by omega)⟩⟩, (.cons rfl (.cons rfl (.nil (by repeat first | exact Mx.refl | exact Mx.mix | refine Mx.put rfl ?_ | refine Mx.upd rfl ?_ | refine Mx.updl rfl ?_ | refine Mx.fin rfl ?_ | refine Mx.inner rfl ?_ | refine Mx.none ?_)))), rfl, (by simp)⟩
          | exact ⟨n - (k + 1), (by omega), k + 1, _, _, _, o ++ [es.getD k 0], (by rfl), ⟨by omega, ⟨by simp; omega, hI.see (by omega) hzk (by omega)⟩⟩, (.cons rfl (.cons rfl (.nil (by repeat first | exact Mx.refl | exact Mx.mix | refine Mx.put rfl ?_ | refine Mx.upd rfl ?_ | refine Mx.updl rfl ?_ | refine Mx.fin rfl ?_ | refine Mx.inner rfl ?_ | refine Mx.none ?_)))), rfl, (by simp)⟩
        )
     ·try simp only [decide_eq_true_eq, decide_eq_false_iff_not, Bool.not_eq_true', Bool.not_eq_false', Int.not_lt, Int.not_le, Int.toNat_natCast] at hc1
      first
       | (exfalso; clear hK9 K9; clear hK8 K8; clear hK7 K7; clear hK6 K6; clear hK5 K5; clear hK4 K4; clear hK3 K3; clear hK2 K2; clear hK1 K1; clear hK0 K0; first | omega | contradiction)
       | (
        refine SW.skip ?_
        refine hK8 _ _ _ ?_
        refine SW.region _ _ _ _ ?_
        refine RL.st ?_
        refine NV.p T ?_
        refine RL.st ?_
        refine NV.p T ?_
        refine RL.st ?_
        refine NV.build1 T rfl (by conv => lhs; whnf) rfl rfl (by conv => lhs; whnf) (by exact (rfl : _ = some [_])) ?_
        intro b26_2
        refine RL.st ?_
        first
          | refine NV.append1 T rfl rfl rfl rfl rfl rfl rfl rfl rfl rfl (by repeat first | exact At.head _ _ | assumption | exact At.put (by assumption) _ | apply At.tail | apply At.app) (ones rfl) (by first | omega | (unfold maxLen; omega)) (by first | omega | (show (_ + _) * 1 ≤ 140737488355328; omega)) ?_
          | refine NV.append T rfl rfl rfl rfl rfl rfl rfl rfl rfl rfl (by repeat first | exact At.head _ _ | assumption | exact At.put (by assumption) _ | apply At.tail | apply At.app) (by assumption) (ones rfl) (by first | omega | (unfold maxLen; omega)) (by first | omega | (show (_ + _) * 1 ≤ 140737488355328; omega)) ?_
        intro a2_ c2_
        refine RL.st ?_
        refine NV.p T ?_
        refine RL.nil _ _ _ _ ?_
        refine hK6 _ _ _ ?_
        refine SW.region _ _ _ _ ?_
        refine RL.st ?_
        first | refine NV.arith rfl rfl rfl rfl (by omega) (by omega) ?_ | refine NV.p T ?_
        refine RL.st ?_
        refine NV.p T ?_
        refine RL.nil _ _ _ _ ?_
        first
          | exact ⟨n - (k + 1), (by omega), k + 1, _, _, _, o ++ [1 - (st o).1] ++ [es.getD k 0], (by rfl), ⟨by omega, ⟨by simp; omega, hI.stuff (by omega) hzk (by omega)⟩⟩, (.cons rfl (.cons rfl (.nil (by repeat first | exact Mx.refl | exact Mx.mix | refine Mx.put rfl ?_ | refine Mx.upd rfl ?_ | refine Mx.updl rfl ?_ | refine Mx.fin rfl ?_ | refine Mx.inner rfl ?_ | refine Mx.none ?_)))), rfl, (by simp)⟩
          | exact ⟨n - (k + 1), (by omega), k + 1, _, _, _, o ++ [es.getD k 0], (by rfl), ⟨by omega, ⟨by simp; omega, hI.see (by omega) hzk (by omega)⟩⟩, (.cons rfl (.cons rfl (.nil (by repeat first | exact Mx.refl | exact Mx.mix | refine Mx.put rfl ?_ | refine Mx.upd rfl ?_ | refine Mx.updl rfl ?_ | refine Mx.fin rfl ?_ | refine Mx.inner rfl ?_ | refine Mx.none ?_)))), rfl, (by simp)⟩
        )
     )
  ·try simp only [decide_eq_true_eq, decide_eq_false_iff_not, Bool.not_eq_true', Bool.not_eq_false', Int.not_lt, Int.not_le, Int.toNat_natCast] at hc0
   first
    | (exfalso; clear hK5 K5; clear hK4 K4; clear hK3 K3; clear hK2 K2; clear hK1 K1; clear hK0 K0; first | omega | contradiction)
    | (
     refine SW.exit ?_
     refine hK2 _ _ _ ?_
     refine SW.seq_k ?_
     intro K10 hK10
     refine SW.region _ _ _ _ ?_
     refine RL.st ?_
     refine NV.p T ?_
     refine RL.st ?_
     refine NV.p T ?_
     refine RL.nil _ _ _ _ ?_
     refine hK10 _ _ _ ?_
     refine SW.sat (fun hs => ?_)
     refine SW.ret ?_
     refine retQ.ret (RVs.tmp (by conv => lhs; whnf) RVs.nil) (fun w hw => hw) ?_
     clear hK10 K10 hK5 K5 hK4 K4 hK3 K3 hK2 K2 hK1 K1 hK0 K0
     obtain rfl := hI.done (by omega)
     obtain rfl := hL
     exact Res.row hs (At.head _ _) (G := [_]) rfl
     )
theorem rput_bad {w0 : World} {H : List Chunk} (sa : Option Addr) (n c : Nat) (es : List Int) (hR : Rd w0 H sa n c 1 (es.map (.int .u8))) (hn : n = es.length) (hm : n ≤ 140737488351232) (hc : chk es = 2) : SC Try.prog w0 12 #[.slice sa n c] H (fun v H' => v = .tuple #[.slice none 0 0, .int .i64 2] ∧ H' = H) := by
 refine SC.enter Try.func12 rfl (Nat.le_of_ble_eq_true rfl) ?_
 refine SW.seq_k ?_
 intro K0 hK0
 refine SW.region _ _ _ _ ?_
 refine RL.st ?_
 refine NV.p T ?_
 refine RL.st ?_
 refine NV.p T ?_
 refine RL.nil _ _ _ _ ?_
 refine hK0 _ _ _ ?_
 refine SW.seq_k ?_
 intro K1 hK1
 refine SW.seq_k ?_
 intro K2 hK2
 refine SW.region _ _ _ _ ?_
 refine RL.st ?_
 refine NV.p T ?_
 refine RL.st ?_
 refine NV.call rfl rfl rfl fun25 rfl rfl ((rcheck sa n c es hR hn hm).mono (fun v H' h => by rw [hc] at h; exact h)) ?_
 rintro _ _ ⟨rfl, e⟩; obtain rfl := e.symm
 refine RL.st ?_
 refine NV.p T ?_
 refine RL.nil _ _ _ _ ?_
 refine hK2 _ _ _ ?_
 refine SW.seq_k ?_
 intro K3 hK3
 refine SW.region _ _ _ _ ?_
 refine RL.st ?_
 refine NV.p T ?_
 refine RL.st ?_
 refine NV.p T ?_
 refine RL.nil _ _ _ _ ?_
 refine hK3 _ _ _ ?_
 refine SW.cond rfl (fun hc0 => ?_) (fun hc0 => ?_)
 ·try simp only [decide_eq_true_eq, decide_eq_false_iff_not, Bool.not_eq_true', Bool.not_eq_false', Int.not_lt, Int.not_le, Int.toNat_natCast] at hc0
  first
   | (exfalso; clear hK3 K3; clear hK2 K2; clear hK1 K1; clear hK0 K0; first | omega | contradiction)
   | (
    refine SW.seq_k ?_
    intro K4 hK4
    refine SW.region _ _ _ _ ?_
    refine RL.st ?_
    refine NV.p T ?_
    refine RL.st ?_
    refine NV.p T ?_
    refine RL.st ?_
    refine NV.p T ?_
    refine RL.nil _ _ _ _ ?_
    refine hK4 _ _ _ ?_
    refine SW.ret ?_
    refine retQ.ret (H' := H) (RVs.tmp (by conv => lhs; whnf) (RVs.tmp (by conv => lhs; whnf) RVs.nil)) (fun w hw => Sat.sub (by repeat first | exact List.Sublist.refl _ | apply List.Sublist.cons_cons | apply List.Sublist.cons | exact List.sublist_append_right _ _ | refine List.Sublist.trans ?_ (List.sublist_append_right _ _)) hw) ?_
    clear hK4 K4 hK3 K3 hK2 K2 hK1 K1 hK0 K0
    exact ⟨rfl, rfl⟩
    )
 ·try simp only [decide_eq_true_eq, decide_eq_false_iff_not, Bool.not_eq_true', Bool.not_eq_false', Int.not_lt, Int.not_le, Int.toNat_natCast] at hc0
  exfalso; clear hK3 K3; clear hK2 K2; clear hK1 K1; clear hK0 K0; first | omega | contradiction
theorem rput_ok {w0 : World} {H : List Chunk} (sa : Option Addr) (n c : Nat) (es : List Int) (hR : Rd w0 H sa n c 1 (es.map (.int .u8))) (hn : n = es.length) (hm : n ≤ 140737488351232) (hc : chk es = 0) (h5 : n ≤ 65536) (hz : Bit es) (hst : (stuffed es).length ≤ 65536) : SC Try.prog w0 12 #[.slice sa n c] H (fun v H' => RV w0 H (stuffed es) 0 v H') := by
 refine SC.enter Try.func12 rfl (Nat.le_of_ble_eq_true rfl) ?_
 refine SW.seq_k ?_
 intro K0 hK0
 refine SW.region _ _ _ _ ?_
 refine RL.st ?_
 refine NV.p T ?_
 refine RL.st ?_
 refine NV.p T ?_
 refine RL.nil _ _ _ _ ?_
 refine hK0 _ _ _ ?_
 refine SW.seq_k ?_
 intro K1 hK1
 refine SW.seq_k ?_
 intro K2 hK2
 refine SW.region _ _ _ _ ?_
 refine RL.st ?_
 refine NV.p T ?_
 refine RL.st ?_
 refine NV.call rfl rfl rfl fun25 rfl rfl ((rcheck sa n c es hR hn hm).mono (fun v H' h => by rw [hc] at h; exact h)) ?_
 rintro _ _ ⟨rfl, e⟩; obtain rfl := e.symm
 refine RL.st ?_
 refine NV.p T ?_
 refine RL.nil _ _ _ _ ?_
 refine hK2 _ _ _ ?_
 refine SW.seq_k ?_
 intro K3 hK3
 refine SW.region _ _ _ _ ?_
 refine RL.st ?_
 refine NV.p T ?_
 refine RL.st ?_
 refine NV.p T ?_
 refine RL.nil _ _ _ _ ?_
 refine hK3 _ _ _ ?_
 refine SW.cond rfl (fun hc0 => ?_) (fun hc0 => ?_)
 ·try simp only [decide_eq_true_eq, decide_eq_false_iff_not, Bool.not_eq_true', Bool.not_eq_false', Int.not_lt, Int.not_le, Int.toNat_natCast] at hc0
  first
   | (exfalso; clear hK3 K3; clear hK2 K2; clear hK1 K1; clear hK0 K0; first | omega | contradiction)
   | (
    refine SW.seq_k ?_
    intro K4 hK4
    refine SW.region _ _ _ _ ?_
    refine RL.st ?_
    refine NV.p T ?_
    refine RL.st ?_
    refine NV.p T ?_
    refine RL.st ?_
    refine NV.p T ?_
    refine RL.nil _ _ _ _ ?_
    refine hK4 _ _ _ ?_
    refine SW.ret ?_
    refine retQ.ret (RVs.tmp (by conv => lhs; whnf) (RVs.tmp (by conv => lhs; whnf) RVs.nil)) (fun w hw => hw) ?_
    clear hK4 K4 hK3 K3 hK2 K2 hK1 K1 hK0 K0
    exact ⟨_, rfl, _, _, _, rfl, hnr, hRr, Gr, rfl⟩
    )
 ·try simp only [decide_eq_true_eq, decide_eq_false_iff_not, Bool.not_eq_true', Bool.not_eq_false', Int.not_lt, Int.not_le, Int.toNat_natCast] at hc0
  first
   | (exfalso; clear hK3 K3; clear hK2 K2; clear hK1 K1; clear hK0 K0; first | omega | contradiction)
   | (
    refine SW.skip ?_
    refine hK1 _ _ _ ?_
    refine SW.seq_k ?_
    intro K5 hK5
    refine SW.region _ _ _ _ ?_
    refine RL.st ?_
    refine NV.p T ?_
    refine RL.st ?_
    refine NV.call rfl rfl rfl fun26 rfl rfl (rstuffed sa n c es hR hn hm h5 hz) ?_
    rintro _ _ ⟨ar, nr, cr, rfl, hnr, hRr, Gr, e⟩; obtain rfl := e.symm
    refine RL.st ?_
    refine NV.p T ?_
    refine RL.nil _ _ _ _ ?_
    refine hK5 _ _ _ ?_
    refine SW.seq_k ?_
    intro K6 hK6
    refine SW.seq_k ?_
    intro K7 hK7
    refine SW.region _ _ _ _ ?_
    refine RL.st ?_
    refine NV.p T ?_
    refine RL.st ?_
    refine NV.p T ?_
    refine RL.st ?_
    refine NV.p T ?_
    refine RL.nil _ _ _ _ ?_
    refine hK7 _ _ _ ?_
    refine SW.cond rfl (fun hc1 => ?_) (fun hc1 => ?_)
    ·try simp only [decide_eq_true_eq, decide_eq_false_iff_not, Bool.not_eq_true', Bool.not_eq_false', Int.not_lt, Int.not_le, Int.toNat_natCast] at hc1
     first
      | (exfalso; clear hK7 K7; clear hK6 K6; clear hK5 K5; clear hK3 K3; clear hK2 K2; clear hK1 K1; clear hK0 K0; first | omega | contradiction)
      | (
       refine SW.seq_k ?_
       intro K8 hK8
       refine SW.region _ _ _ _ ?_
       refine RL.st ?_
       refine NV.p T ?_
       refine RL.st ?_
       refine NV.p T ?_
       refine RL.nil _ _ _ _ ?_
       refine hK8 _ _ _ ?_
       refine SW.ret ?_
       refine retQ.ret (RVs.tmp (by conv => lhs; whnf) (RVs.tmp (by conv => lhs; whnf) RVs.nil)) (fun w hw => hw) ?_
       clear hK8 K8 hK7 K7 hK6 K6 hK5 K5 hK3 K3 hK2 K2 hK1 K1 hK0 K0
       exact ⟨_, rfl, _, _, _, rfl, hnr, hRr, Gr, rfl⟩
       )
    ·try simp only [decide_eq_true_eq, decide_eq_false_iff_not, Bool.not_eq_true', Bool.not_eq_false', Int.not_lt, Int.not_le, Int.toNat_natCast] at hc1
     first
      | (exfalso; clear hK7 K7; clear hK6 K6; clear hK5 K5; clear hK3 K3; clear hK2 K2; clear hK1 K1; clear hK0 K0; first | omega | contradiction)
      | (
       refine SW.skip ?_
       refine hK6 _ _ _ ?_
       refine SW.seq_k ?_
       intro K9 hK9
       refine SW.region _ _ _ _ ?_
       refine RL.st ?_
       refine NV.p T ?_
       refine RL.st ?_
       refine NV.p T ?_
       refine RL.st ?_
       refine NV.p T ?_
       refine RL.nil _ _ _ _ ?_
       refine hK9 _ _ _ ?_
       refine SW.ret ?_
       refine retQ.ret (RVs.tmp (by conv => lhs; whnf) (RVs.tmp (by conv => lhs; whnf) RVs.nil)) (fun w hw => hw) ?_
       clear hK9 K9 hK7 K7 hK6 K6 hK5 K5 hK3 K3 hK2 K2 hK1 K1 hK0 K0
       exact ⟨_, rfl, _, _, _, rfl, hnr, hRr, Gr, rfl⟩
       )
    )
theorem rput_long {w0 : World} {H : List Chunk} (sa : Option Addr) (n c : Nat) (es : List Int) (hR : Rd w0 H sa n c 1 (es.map (.int .u8))) (hn : n = es.length) (hm : n ≤ 140737488351232) (hc : chk es = 0) (h5 : n ≤ 65536) (hz : Bit es) (hst : 65536 < (stuffed es).length) : SC Try.prog w0 12 #[.slice sa n c] H (fun v H' => RV w0 H [] 2 v H') := by
 refine SC.enter Try.func12 rfl (Nat.le_of_ble_eq_true rfl) ?_
 refine SW.seq_k ?_
 intro K0 hK0
 refine SW.region _ _ _ _ ?_
 refine RL.st ?_
 refine NV.p T ?_
 refine RL.st ?_
 refine NV.p T ?_
 refine RL.nil _ _ _ _ ?_
 refine hK0 _ _ _ ?_
 refine SW.seq_k ?_
 intro K1 hK1
 refine SW.seq_k ?_
 intro K2 hK2
 refine SW.region _ _ _ _ ?_
 refine RL.st ?_
 refine NV.p T ?_
 refine RL.st ?_
 refine NV.call rfl rfl rfl fun25 rfl rfl ((rcheck sa n c es hR hn hm).mono (fun v H' h => by rw [hc] at h; exact h)) ?_
 rintro _ _ ⟨rfl, e⟩; obtain rfl := e.symm
 refine RL.st ?_
 refine NV.p T ?_
 refine RL.nil _ _ _ _ ?_
 refine hK2 _ _ _ ?_
 refine SW.seq_k ?_
 intro K3 hK3
 refine SW.region _ _ _ _ ?_
 refine RL.st ?_
 refine NV.p T ?_
 refine RL.st ?_
 refine NV.p T ?_
 refine RL.nil _ _ _ _ ?_
 refine hK3 _ _ _ ?_
 refine SW.cond rfl (fun hc0 => ?_) (fun hc0 => ?_)
 ·try simp only [decide_eq_true_eq, decide_eq_false_iff_not, Bool.not_eq_true', Bool.not_eq_false', Int.not_lt, Int.not_le, Int.toNat_natCast] at hc0
  first
   | (exfalso; clear hK3 K3; clear hK2 K2; clear hK1 K1; clear hK0 K0; first | omega | contradiction)
   | (
    refine SW.seq_k ?_
    intro K4 hK4
    refine SW.region _ _ _ _ ?_
    refine RL.st ?_
    refine NV.p T ?_
    refine RL.st ?_
    refine NV.p T ?_
    refine RL.st ?_
    refine NV.p T ?_
    refine RL.nil _ _ _ _ ?_
    refine hK4 _ _ _ ?_
    refine SW.ret ?_
    refine retQ.ret (RVs.tmp (by conv => lhs; whnf) (RVs.tmp (by conv => lhs; whnf) RVs.nil)) (fun w hw => hw) ?_
    clear hK4 K4 hK3 K3 hK2 K2 hK1 K1 hK0 K0
    exact ⟨_, rfl, none, 0, 0, rfl, rfl, Rd.nilS, Gr, rfl⟩
    )
 ·try simp only [decide_eq_true_eq, decide_eq_false_iff_not, Bool.not_eq_true', Bool.not_eq_false', Int.not_lt, Int.not_le, Int.toNat_natCast] at hc0
  first
   | (exfalso; clear hK3 K3; clear hK2 K2; clear hK1 K1; clear hK0 K0; first | omega | contradiction)
   | (
    refine SW.skip ?_
    refine hK1 _ _ _ ?_
    refine SW.seq_k ?_
    intro K5 hK5
    refine SW.region _ _ _ _ ?_
    refine RL.st ?_
    refine NV.p T ?_
    refine RL.st ?_
    refine NV.call rfl rfl rfl fun26 rfl rfl (rstuffed sa n c es hR hn hm h5 hz) ?_
    rintro _ _ ⟨ar, nr, cr, rfl, hnr, hRr, Gr, e⟩; obtain rfl := e.symm
    refine RL.st ?_
    refine NV.p T ?_
    refine RL.nil _ _ _ _ ?_
    refine hK5 _ _ _ ?_
    refine SW.seq_k ?_
    intro K6 hK6
    refine SW.seq_k ?_
    intro K7 hK7
    refine SW.region _ _ _ _ ?_
    refine RL.st ?_
    refine NV.p T ?_
    refine RL.st ?_
    refine NV.p T ?_
    refine RL.st ?_
    refine NV.p T ?_
    refine RL.nil _ _ _ _ ?_
    refine hK7 _ _ _ ?_
    refine SW.cond rfl (fun hc1 => ?_) (fun hc1 => ?_)
    ·try simp only [decide_eq_true_eq, decide_eq_false_iff_not, Bool.not_eq_true', Bool.not_eq_false', Int.not_lt, Int.not_le, Int.toNat_natCast] at hc1
     first
      | (exfalso; clear hK7 K7; clear hK6 K6; clear hK5 K5; clear hK3 K3; clear hK2 K2; clear hK1 K1; clear hK0 K0; first | omega | contradiction)
      | (
       refine SW.seq_k ?_
       intro K8 hK8
       refine SW.region _ _ _ _ ?_
       refine RL.st ?_
       refine NV.p T ?_
       refine RL.st ?_
       refine NV.p T ?_
       refine RL.nil _ _ _ _ ?_
       refine hK8 _ _ _ ?_
       refine SW.ret ?_
       refine retQ.ret (RVs.tmp (by conv => lhs; whnf) (RVs.tmp (by conv => lhs; whnf) RVs.nil)) (fun w hw => hw) ?_
       clear hK8 K8 hK7 K7 hK6 K6 hK5 K5 hK3 K3 hK2 K2 hK1 K1 hK0 K0
       exact ⟨_, rfl, none, 0, 0, rfl, rfl, Rd.nilS, Gr, rfl⟩
       )
    ·try simp only [decide_eq_true_eq, decide_eq_false_iff_not, Bool.not_eq_true', Bool.not_eq_false', Int.not_lt, Int.not_le, Int.toNat_natCast] at hc1
     first
      | (exfalso; clear hK7 K7; clear hK6 K6; clear hK5 K5; clear hK3 K3; clear hK2 K2; clear hK1 K1; clear hK0 K0; first | omega | contradiction)
      | (
       refine SW.skip ?_
       refine hK6 _ _ _ ?_
       refine SW.seq_k ?_
       intro K9 hK9
       refine SW.region _ _ _ _ ?_
       refine RL.st ?_
       refine NV.p T ?_
       refine RL.st ?_
       refine NV.p T ?_
       refine RL.st ?_
       refine NV.p T ?_
       refine RL.nil _ _ _ _ ?_
       refine hK9 _ _ _ ?_
       refine SW.ret ?_
       refine retQ.ret (RVs.tmp (by conv => lhs; whnf) (RVs.tmp (by conv => lhs; whnf) RVs.nil)) (fun w hw => hw) ?_
       clear hK9 K9 hK7 K7 hK6 K6 hK5 K5 hK3 K3 hK2 K2 hK1 K1 hK0 K0
       exact ⟨_, rfl, none, 0, 0, rfl, rfl, Rd.nilS, Gr, rfl⟩
       )
    )
theorem srput {w0 : World} {H : List Chunk} (sa : Option Addr) (n c : Nat) (es : List Int) (hR : Rd w0 H sa n c 1 (es.map (.int .u8))) (hn : n = es.length) (hm : n ≤ 140737488351232) (hb : Byte es) : SC Try.prog w0 12 #[.slice sa n c] H (fun v H' => RV w0 H (putV es).1 (putV es).2 v H') := by
  by_cases hc : chk es = 0
  · have hcz := chk_zero.1 hc
    by_cases h : (stuffed es).length ≤ 65536
    · have e : putV es = (stuffed es, 0) := by unfold putV; rw [if_pos hc, if_pos h]
      rw [e]; exact rput_ok sa n c es hR hn hm hc (by omega) (bit_of hb hcz.2) h
    · have e : putV es = ([], 2) := by unfold putV; rw [if_pos hc, if_neg h]
      rw [e]; exact rput_long sa n c es hR hn hm hc (by omega) (bit_of hb hcz.2) (by omega)
  · have e : putV es = ([], 2) := if_neg hc
    rw [e]; exact (rput_bad sa n c es hR hn hm ((chk_or es).resolve_left hc)).mono (by rintro _ _ ⟨rfl, rfl⟩; exact ⟨_, rfl, Res.nil⟩)
theorem rsplit_ok {w0 : World} {H : List Chunk} (sa : Option Addr) (n c : Nat) (es : List Int) (hR : Rd w0 H sa n c 1 (es.map (.int .u8))) (hn : n = es.length) (hm : n ≤ 140737488351232) (o' : List Int) (q' : Int) (d' : Bool) (hg : getF [] ([], 0, false) es = some (o', q', d')) : SC Try.prog w0 28 #[.slice sa n c] H (fun v H' => ∃ u, v = .tuple #[u, .int .i64 q', .bool d', .bool true] ∧ Res w0 H o' u H') := by
 refine SC.enter Try.func28 rfl (Nat.le_of_ble_eq_true rfl) ?_
 refine SW.seq_k ?_
 intro K0 hK0
 refine SW.region _ _ _ _ ?_
 refine RL.st ?_
 refine NV.p T ?_
 refine RL.st ?_
 refine NV.p T ?_
 refine RL.st ?_
 refine NV.p T ?_
 refine RL.st ?_
 refine NV.p T ?_
 refine RL.nil _ _ _ _ ?_
 refine hK0 _ _ _ ?_
 refine SW.seq_k ?_
 intro K1 hK1
 refine SW.region _ _ _ _ ?_
 refine RL.nilrow 5 1 ?_
 refine RL.st ?_
 refine NV.p T ?_
 refine RL.nil _ _ _ _ ?_
 refine hK1 _ _ _ ?_
 refine SW.seq_k ?_
 intro K2 hK2
 refine SW.region _ _ _ _ ?_
 refine RL.st ?_
 refine NV.p T ?_
 refine RL.nil _ _ _ _ ?_
 refine hK2 _ _ _ ?_
 refine SW.seq_k ?_
 intro K3 hK3
 refine SW.region _ _ _ _ ?_
 refine RL.st ?_
 refine NV.p T ?_
 refine RL.nil _ _ _ _ ?_
 refine hK3 _ _ _ ?_
 refine SW.seq_k ?_
 intro K4 hK4
 refine SW.seq_k ?_
 intro K5 hK5
 refine SW.region _ _ _ _ ?_
 refine RL.st ?_
 refine NV.p T ?_
 refine RL.st ?_
 refine NV.p T ?_
 refine RL.st ?_
 refine NV.p T ?_
 refine RL.nil _ _ _ _ ?_
 refine hK5 _ _ _ ?_
 refine SW.block ?_
 refine SW.loopM (fun frB mm fr ds HH => ∃ (k : Nat) (sr : Option Addr) (L cr : Nat) (o : List Int) (q : Int) (d : Bool), mm = n - k ∧ (k ≤ n ∧ (L = o.length ∧ UI es k o q d)) ∧ FrIs [2, 3, 4, 5, 6, 7, 8, 9, 10, 13, 14, 15, 16, 17, 18, 19, 20, 21, 22, 23, 24, 25, 26, 27, 28, 29, 30, 31, 32, 33, 34, 35, 36, 37, 38, 39] frB fr [(13, .int .i64 k), (6, .slice sr L cr), (7, .int .i64 q), (8, .bool d)] ∧ ds = [] ∧ HH = (.row sr L cr 5 1 (o.map (.int .u8)) :: H)) (n := n - 0) ?_ ?_
 ·exact ⟨0, none, 0, 0, [], 0, false, rfl, ⟨Nat.zero_le _, ⟨rfl, UI.start⟩⟩, (.cons rfl (.cons rfl (.consI rfl (by omega) (.consB rfl (by first | rfl | assumption | exact decide_eq_true (by assumption) | exact decide_eq_false (by assumption) | (clear hK5 K5; clear hK4 K4; clear hK3 K3; clear hK2 K2; clear hK1 K1; clear hK0 K0;  simp_all)) (.nil (by repeat first | exact Mx.refl | exact Mx.mix | refine Mx.put rfl ?_ | refine Mx.upd rfl ?_ | refine Mx.updl rfl ?_ | refine Mx.fin rfl ?_ | refine Mx.inner rfl ?_ | refine Mx.none ?_)))))), rfl, rfl⟩
 ·rintro mm fr ds HH ⟨k, sr, L, cr, o, q, d, rfl, ⟨hk, ⟨hL, hI⟩⟩, hFr, rfl, eHH⟩
  obtain rfl := eHH.symm
  obtain ⟨frU, rfl⟩ := hFr.eq
  clear hFr
  have hkn := hI.kn
  have hlen := hI.len
  have h5' := hI.r5
  have hq0 := hI.n0
  have hqk := hI.nk
  have hcap := hR.cap
  have hr1 := (st_range (es.take k)).2
  rw [List.length_take] at hr1
  have hla : 0 < k → es.getD (((k : Nat) : Int) - 1).toNat 0 = (st (es.take k)).1 := fun h => by
    rw [st_last _ (by rw [List.length_take]; omega), List.length_take]
    rw [List.getD_eq_getElem?_getD, List.getD_eq_getElem?_getD, List.getElem?_take, if_pos (by omega)]
    congr 2; omega
  refine SW.seq_k ?_
  intro K6 hK6
  refine SW.region _ _ _ _ ?_
  refine RL.st ?_
  refine NV.p T ?_
  refine RL.nil _ _ _ _ ?_
  refine hK6 _ _ _ ?_
  refine SW.seq_k ?_
  intro K7 hK7
  refine SW.cond rfl (fun hc0 => ?_) (fun hc0 => ?_)
  ·try simp only [decide_eq_true_eq, decide_eq_false_iff_not, Bool.not_eq_true', Bool.not_eq_false', Int.not_lt, Int.not_le, Int.toNat_natCast] at hc0
   first
    | (exfalso; clear hK7 K7; clear hK6 K6; clear hK5 K5; clear hK4 K4; clear hK3 K3; clear hK2 K2; clear hK1 K1; clear hK0 K0; first | omega | contradiction)
    | (
     refine SW.skip ?_
     refine hK7 _ _ _ ?_
     refine SW.seq_k ?_
     intro K8 hK8
     refine SW.block ?_
     refine SW.seq_k ?_
     intro K9 hK9
     refine SW.region _ _ _ _ ?_
     refine RL.st ?_
     refine NV.p T ?_
     refine RL.st ?_
     first
       | refine NV.index_array T rfl rfl rfl rfl rfl (by omega) (by omega) ?_
       | refine NV.index_slice T rfl rfl rfl rfl rfl hR.cons (by omega) (by omega) ?_
     refine RL.st ?_
     refine NV.load_elem T rfl rfl rfl rfl hR.cons (by first | exact map_as (by omega) (hla (by omega)) | exact map_get _ _ (by omega)) ?_
     refine RL.st ?_
     refine NV.p T ?_
     refine RL.st ?_
     refine NV.p T ?_
     refine RL.nil _ _ _ _ ?_
     refine hK9 _ _ _ ?_
     refine SW.seq_k ?_
     intro K10 hK10
     refine SW.region _ _ _ _ ?_
     refine RL.st ?_
     refine NV.p T ?_
     refine RL.st ?_
     refine NV.p T ?_
     refine RL.st ?_
     refine NV.slice (h := k) T rfl rfl rfl rfl rfl ⟨_, rfl⟩ (by omega) (by omega) ?_
     refine RL.st ?_
     refine NV.call rfl rfl rfl fun34 rfl rfl ((rfull _ (k - 0) (c - 0) (es.take k) ((hR.cons.sub (l := 0) (h := k) (by omega) (by omega)).as (by simp [List.map_take])) (by simp; omega) (by omega)).mono (fun v H' h => by rw [full5_st] at h; exact h)) ?_
     rintro _ _ ⟨rfl, e⟩; obtain rfl := e.symm
     refine RL.st ?_
     refine NV.p T ?_
     refine RL.nil _ _ _ _ ?_
     refine hK10 _ _ _ ?_
     refine SW.seq_k ?_
     intro K11 hK11
     refine SW.seq_k ?_
     intro K12 hK12
     refine SW.region _ _ _ _ ?_
     refine RL.st ?_
     refine NV.p T ?_
     refine RL.st ?_
     refine NV.p T ?_
     refine RL.split 23 rfl (fun hs0 => ?_) (fun hs0 => ?_)
     ·try simp only [decide_eq_true_eq, decide_eq_false_iff_not, Bool.not_eq_true', Bool.not_eq_false', Int.not_lt, Int.not_le, Int.toNat_natCast] at hs0
      first
       | (exfalso; clear hK12 K12; clear hK11 K11; clear hK10 K10; clear hK9 K9; clear hK8 K8; clear hK7 K7; clear hK6 K6; clear hK5 K5; clear hK4 K4; clear hK3 K3; clear hK2 K2; clear hK1 K1; clear hK0 K0; first | omega | contradiction)
       | (
        refine RL.st ?_
        refine NV.p T ?_
        refine RL.st ?_
        refine NV.p T ?_
        refine RL.st ?_
        refine NV.p T ?_
        refine RL.st ?_
        first | refine NV.arith rfl rfl rfl rfl (by omega) (by omega) ?_ | refine NV.p T ?_
        refine RL.st ?_
        first
          | refine NV.index_array T rfl rfl rfl rfl rfl (by omega) (by omega) ?_
          | refine NV.index_slice T rfl rfl rfl rfl rfl hR.cons (by omega) (by omega) ?_
        refine RL.st ?_
        refine NV.load_elem T rfl rfl rfl rfl hR.cons (by first | exact map_as (by omega) (hla (by omega)) | exact map_get _ _ (by omega)) ?_
        refine RL.st ?_
        refine NV.p T ?_
        refine RL.st ?_
        refine NV.p T ?_
        refine RL.nil _ _ _ _ ?_
        refine hK12 _ _ _ ?_
        refine SW.cond rfl (fun hc1 => ?_) (fun hc1 => ?_)
        ·try simp only [decide_eq_true_eq, decide_eq_false_iff_not, Bool.not_eq_true', Bool.not_eq_false', Int.not_lt, Int.not_le, Int.toNat_natCast] at hc1
         first
          | (exfalso; clear hK12 K12; clear hK11 K11; clear hK10 K10; clear hK9 K9; clear hK8 K8; clear hK7 K7; clear hK6 K6; clear hK5 K5; clear hK4 K4; clear hK3 K3; clear hK2 K2; clear hK1 K1; clear hK0 K0; first | omega | contradiction)
          | (
           refine SW.seq_k ?_
           intro K13 hK13
           refine SW.region _ _ _ _ ?_
           refine RL.st ?_
           refine NV.p T ?_
           refine RL.st ?_
           refine NV.p T ?_
           refine RL.st ?_
           refine NV.p T ?_
           refine RL.st ?_
           refine NV.p T ?_
           refine RL.nil _ _ _ _ ?_
           refine hK13 _ _ _ ?_
           refine SW.sat (fun hs => ?_)
           refine SW.ret ?_
           refine retQ.ret (RVs.tmp (by conv => lhs; whnf) (RVs.tmp (by conv => lhs; whnf) (RVs.tmp (by conv => lhs; whnf) (RVs.tmp (by conv => lhs; whnf) RVs.nil)))) (fun w hw => hw) ?_
           clear hK13 K13 hK12 K12 hK11 K11 hK10 K10 hK9 K9 hK8 K8 hK7 K7 hK6 K6 hK5 K5 hK4 K4 hK3 K3 hK2 K2 hK1 K1 hK0 K0
           first
             | (have h := hI.done (by omega)
                rw [hg] at h
                obtain ⟨rfl, rfl, rfl⟩ : o' = o ∧ q' = q ∧ d' = d := by simpa using h
                obtain rfl := hL
                exact ⟨_, rfl, Res.row hs (At.head _ _) (G := [_]) rfl⟩)
             | (exfalso; have h := hI.bad (by omega) (by omega) (by omega); rw [hg] at h; cases h)
           )
        ·try simp only [decide_eq_true_eq, decide_eq_false_iff_not, Bool.not_eq_true', Bool.not_eq_false', Int.not_lt, Int.not_le, Int.toNat_natCast] at hc1
         first
          | (exfalso; clear hK12 K12; clear hK11 K11; clear hK10 K10; clear hK9 K9; clear hK8 K8; clear hK7 K7; clear hK6 K6; clear hK5 K5; clear hK4 K4; clear hK3 K3; clear hK2 K2; clear hK1 K1; clear hK0 K0; first | omega | contradiction)
          | (
           refine SW.skip ?_
           refine hK11 _ _ _ ?_
           refine SW.seq_k ?_
           intro K14 hK14
           refine SW.region _ _ _ _ ?_
           refine RL.st ?_
           refine NV.p T ?_
           refine RL.nil _ _ _ _ ?_
           refine hK14 _ _ _ ?_
           refine SW.cond rfl (fun hc2 => ?_) (fun hc2 => ?_)
           ·try simp only [decide_eq_true_eq, decide_eq_false_iff_not, Bool.not_eq_true', Bool.not_eq_false', Int.not_lt, Int.not_le, Int.toNat_natCast] at hc2
            first
             | (exfalso; clear hK14 K14; clear hK12 K12; clear hK11 K11; clear hK10 K10; clear hK9 K9; clear hK8 K8; clear hK7 K7; clear hK6 K6; clear hK5 K5; clear hK4 K4; clear hK3 K3; clear hK2 K2; clear hK1 K1; clear hK0 K0; first | omega | contradiction)
             | (
              refine SW.region _ _ _ _ ?_
              refine RL.st ?_
              refine NV.p T ?_
              refine RL.st ?_
              first | refine NV.arith rfl rfl rfl rfl (by omega) (by omega) ?_ | refine NV.p T ?_
              refine RL.st ?_
              refine NV.p T ?_
              refine RL.nil _ _ _ _ ?_
              refine hK8 _ _ _ ?_
              refine SW.region _ _ _ _ ?_
              refine RL.st ?_
              first | refine NV.arith rfl rfl rfl rfl (by omega) (by omega) ?_ | refine NV.p T ?_
              refine RL.st ?_
              refine NV.p T ?_
              refine RL.nil _ _ _ _ ?_
              first
                | exact ⟨n - (k + 1), (by omega), k + 1, _, _, _, o, q + 1, true, (by rfl), ⟨by omega, ⟨by assumption, hI.stuff (by omega) (by omega) (by omega)⟩⟩, (.cons rfl (.cons rfl (.consI rfl (by omega) (.consB rfl (by first | rfl | assumption | exact decide_eq_true (by assumption) | exact decide_eq_false (by assumption) | (clear hK14 K14; clear hK12 K12; clear hK11 K11; clear hK10 K10; clear hK9 K9; clear hK8 K8; clear hK7 K7; clear hK6 K6; clear hK5 K5; clear hK4 K4; clear hK3 K3; clear hK2 K2; clear hK1 K1; clear hK0 K0;  simp_all)) (.nil (by repeat first | exact Mx.refl | exact Mx.mix | refine Mx.put rfl ?_ | refine Mx.upd rfl ?_ | refine Mx.updl rfl ?_ | refine Mx.fin rfl ?_ | refine Mx.inner rfl ?_ | refine Mx.none ?_)))))), rfl, rfl⟩
                | exact ⟨n - (k + 1), (by omega), k + 1, _, _, _, o ++ [es.getD k 0], q, false, (by rfl), ⟨by omega, ⟨by simp; omega, hI.see (by omega) (by omega)⟩⟩, (.cons rfl (.cons rfl (.consI rfl (by omega) (.consB rfl (by first | rfl | assumption | exact decide_eq_true (by assumption) | exact decide_eq_false (by assumption) | (clear hK14 K14; clear hK12 K12; clear hK11 K11; clear hK10 K10; clear hK9 K9; clear hK8 K8; clear hK7 K7; clear hK6 K6; clear hK5 K5; clear hK4 K4; clear hK3 K3; clear hK2 K2; clear hK1 K1; clear hK0 K0;  simp_all)) (.nil (by repeat first | exact Mx.refl | exact Mx.mix | refine Mx.put rfl ?_ | refine Mx.upd rfl ?_ | refine Mx.updl rfl ?_ | refine Mx.fin rfl ?_ | refine Mx.inner rfl ?_ | refine Mx.none ?_)))))), rfl, (by simp)⟩
              )
           ·try simp only [decide_eq_true_eq, decide_eq_false_iff_not, Bool.not_eq_true', Bool.not_eq_false', Int.not_lt, Int.not_le, Int.toNat_natCast] at hc2
            first
             | (exfalso; clear hK14 K14; clear hK12 K12; clear hK11 K11; clear hK10 K10; clear hK9 K9; clear hK8 K8; clear hK7 K7; clear hK6 K6; clear hK5 K5; clear hK4 K4; clear hK3 K3; clear hK2 K2; clear hK1 K1; clear hK0 K0; first | omega | contradiction)
             | (
              refine SW.region _ _ _ _ ?_
              refine RL.st ?_
              refine NV.p T ?_
              refine RL.st ?_
              refine NV.p T ?_
              refine RL.st ?_
              refine NV.build1 T rfl (by conv => lhs; whnf) rfl rfl (by conv => lhs; whnf) (by exact (rfl : _ = some [_])) ?_
              intro b37_0
              refine RL.st ?_
              first
                | refine NV.append1 T rfl rfl rfl rfl rfl rfl rfl rfl rfl rfl (by repeat first | exact At.head _ _ | assumption | exact At.put (by assumption) _ | apply At.tail | apply At.app) (ones rfl) (by first | omega | (unfold maxLen; omega)) (by first | omega | (show (_ + _) * 1 ≤ 140737488355328; omega)) ?_
                | refine NV.append T rfl rfl rfl rfl rfl rfl rfl rfl rfl rfl (by repeat first | exact At.head _ _ | assumption | exact At.put (by assumption) _ | apply At.tail | apply At.app) (by assumption) (ones rfl) (by first | omega | (unfold maxLen; omega)) (by first | omega | (show (_ + _) * 1 ≤ 140737488355328; omega)) ?_
              intro a0_ c0_
              refine RL.st ?_
              refine NV.p T ?_
              refine RL.nil _ _ _ _ ?_
              refine hK8 _ _ _ ?_
              refine SW.region _ _ _ _ ?_
              refine RL.st ?_
              first | refine NV.arith rfl rfl rfl rfl (by omega) (by omega) ?_ | refine NV.p T ?_
              refine RL.st ?_
              refine NV.p T ?_
              refine RL.nil _ _ _ _ ?_
              first
                | exact ⟨n - (k + 1), (by omega), k + 1, _, _, _, o, q + 1, true, (by rfl), ⟨by omega, ⟨by assumption, hI.stuff (by omega) (by omega) (by omega)⟩⟩, (.cons rfl (.cons rfl (.consI rfl (by omega) (.consB rfl (by first | rfl | assumption | exact decide_eq_true (by assumption) | exact decide_eq_false (by assumption) | (clear hK14 K14; clear hK12 K12; clear hK11 K11; clear hK10 K10; clear hK9 K9; clear hK8 K8; clear hK7 K7; clear hK6 K6; clear hK5 K5; clear hK4 K4; clear hK3 K3; clear hK2 K2; clear hK1 K1; clear hK0 K0;  simp_all)) (.nil (by repeat first | exact Mx.refl | exact Mx.mix | refine Mx.put rfl ?_ | refine Mx.upd rfl ?_ | refine Mx.updl rfl ?_ | refine Mx.fin rfl ?_ | refine Mx.inner rfl ?_ | refine Mx.none ?_)))))), rfl, rfl⟩
                | exact ⟨n - (k + 1), (by omega), k + 1, _, _, _, o ++ [es.getD k 0], q, false, (by rfl), ⟨by omega, ⟨by simp; omega, hI.see (by omega) (by omega)⟩⟩, (.cons rfl (.cons rfl (.consI rfl (by omega) (.consB rfl (by first | rfl | assumption | exact decide_eq_true (by assumption) | exact decide_eq_false (by assumption) | (clear hK14 K14; clear hK12 K12; clear hK11 K11; clear hK10 K10; clear hK9 K9; clear hK8 K8; clear hK7 K7; clear hK6 K6; clear hK5 K5; clear hK4 K4; clear hK3 K3; clear hK2 K2; clear hK1 K1; clear hK0 K0;  simp_all)) (.nil (by repeat first | exact Mx.refl | exact Mx.mix | refine Mx.put rfl ?_ | refine Mx.upd rfl ?_ | refine Mx.updl rfl ?_ | refine Mx.fin rfl ?_ | refine Mx.inner rfl ?_ | refine Mx.none ?_)))))), rfl, (by simp)⟩
              )
           )
        )
     ·try simp only [decide_eq_true_eq, decide_eq_false_iff_not, Bool.not_eq_true', Bool.not_eq_false', Int.not_lt, Int.not_le, Int.toNat_natCast] at hs0
      first
       | (exfalso; clear hK12 K12; clear hK11 K11; clear hK10 K10; clear hK9 K9; clear hK8 K8; clear hK7 K7; clear hK6 K6; clear hK5 K5; clear hK4 K4; clear hK3 K3; clear hK2 K2; clear hK1 K1; clear hK0 K0; first | omega | contradiction)
       | (
        refine RL.guard_no rfl rfl rfl ?_
        refine RL.guard_no rfl rfl rfl ?_
        refine RL.guard_no rfl rfl rfl ?_
        refine RL.guard_no rfl rfl rfl ?_
        refine RL.guard_no rfl rfl rfl ?_
        refine RL.guard_no rfl rfl rfl ?_
        refine RL.guard_no rfl rfl rfl ?_
        refine RL.st ?_
        refine NV.p T ?_
        refine RL.nil _ _ _ _ ?_
        refine hK12 _ _ _ ?_
        refine SW.cond_f rfl ?_
        refine SW.skip ?_
        refine hK11 _ _ _ ?_
        refine SW.seq_k ?_
        intro K15 hK15
        refine SW.region _ _ _ _ ?_
        refine RL.st ?_
        refine NV.p T ?_
        refine RL.nil _ _ _ _ ?_
        refine hK15 _ _ _ ?_
        refine SW.cond rfl (fun hc3 => ?_) (fun hc3 => ?_)
        ·try simp only [decide_eq_true_eq, decide_eq_false_iff_not, Bool.not_eq_true', Bool.not_eq_false', Int.not_lt, Int.not_le, Int.toNat_natCast] at hc3
         first
          | (exfalso; clear hK15 K15; clear hK12 K12; clear hK11 K11; clear hK10 K10; clear hK9 K9; clear hK8 K8; clear hK7 K7; clear hK6 K6; clear hK5 K5; clear hK4 K4; clear hK3 K3; clear hK2 K2; clear hK1 K1; clear hK0 K0; first | omega | contradiction)
          | (
           refine SW.region _ _ _ _ ?_
           refine RL.st ?_
           refine NV.p T ?_
           refine RL.st ?_
           first | refine NV.arith rfl rfl rfl rfl (by omega) (by omega) ?_ | refine NV.p T ?_
           refine RL.st ?_
           refine NV.p T ?_
           refine RL.nil _ _ _ _ ?_
           refine hK8 _ _ _ ?_
           refine SW.region _ _ _ _ ?_
           refine RL.st ?_
           first | refine NV.arith rfl rfl rfl rfl (by omega) (by omega) ?_ | refine NV.p T ?_
           refine RL.st ?_
           refine NV.p T ?_
           refine RL.nil _ _ _ _ ?_
           first
             | exact ⟨n - (k + 1), (by omega), k + 1, _, _, _, o, q + 1, true, (by rfl), ⟨by omega, ⟨by assumption, hI.stuff (by omega) (by omega) (by omega)⟩⟩, (.cons rfl (.cons rfl (.consI rfl (by omega) (.consB rfl (by first | rfl | assumption | exact decide_eq_true (by assumption) | exact decide_eq_false (by assumption) | (clear hK15 K15; clear hK12 K12; clear hK11 K11; clear hK10 K10; clear hK9 K9; clear hK8 K8; clear hK7 K7; clear hK6 K6; clear hK5 K5; clear hK4 K4; clear hK3 K3; clear hK2 K2; clear hK1 K1; clear hK0 K0;  simp_all)) (.nil (by repeat first | exact Mx.refl | exact Mx.mix | refine Mx.put rfl ?_ | refine Mx.upd rfl ?_ | refine Mx.updl rfl ?_ | refine Mx.fin rfl ?_ | refine Mx.inner rfl ?_ | refine Mx.none ?_)))))), rfl, rfl⟩
             | exact ⟨n - (k + 1), (by omega), k + 1, _, _, _, o ++ [es.getD k 0], q, false, (by rfl), ⟨by omega, ⟨by simp; omega, hI.see (by omega) (by omega)⟩⟩, (.cons rfl (.cons rfl (.consI rfl (by omega) (.consB rfl (by first | rfl | assumption | exact decide_eq_true (by assumption) | exact decide_eq_false (by assumption) | (clear hK15 K15; clear hK12 K12; clear hK11 K11; clear hK10 K10; clear hK9 K9; clear hK8 K8; clear hK7 K7; clear hK6 K6; clear hK5 K5; clear hK4 K4; clear hK3 K3; clear hK2 K2; clear hK1 K1; clear hK0 K0;  simp_all)) (.nil (by repeat first | exact Mx.refl | exact Mx.mix | refine Mx.put rfl ?_ | refine Mx.upd rfl ?_ | refine Mx.updl rfl ?_ | refine Mx.fin rfl ?_ | refine Mx.inner rfl ?_ | refine Mx.none ?_)))))), rfl, (by simp)⟩
           )
        ·try simp only [decide_eq_true_eq, decide_eq_false_iff_not, Bool.not_eq_true', Bool.not_eq_false', Int.not_lt, Int.not_le, Int.toNat_natCast] at hc3
         first
          | (exfalso; clear hK15 K15; clear hK12 K12; clear hK11 K11; clear hK10 K10; clear hK9 K9; clear hK8 K8; clear hK7 K7; clear hK6 K6; clear hK5 K5; clear hK4 K4; clear hK3 K3; clear hK2 K2; clear hK1 K1; clear hK0 K0; first | omega | contradiction)
          | (
           refine SW.region _ _ _ _ ?_
           refine RL.st ?_
           refine NV.p T ?_
           refine RL.st ?_
           refine NV.p T ?_
           refine RL.st ?_
           refine NV.build1 T rfl (by conv => lhs; whnf) rfl rfl (by conv => lhs; whnf) (by exact (rfl : _ = some [_])) ?_
           intro b37_1
           refine RL.st ?_
           first
             | refine NV.append1 T rfl rfl rfl rfl rfl rfl rfl rfl rfl rfl (by repeat first | exact At.head _ _ | assumption | exact At.put (by assumption) _ | apply At.tail | apply At.app) (ones rfl) (by first | omega | (unfold maxLen; omega)) (by first | omega | (show (_ + _) * 1 ≤ 140737488355328; omega)) ?_
             | refine NV.append T rfl rfl rfl rfl rfl rfl rfl rfl rfl rfl (by repeat first | exact At.head _ _ | assumption | exact At.put (by assumption) _ | apply At.tail | apply At.app) (by assumption) (ones rfl) (by first | omega | (unfold maxLen; omega)) (by first | omega | (show (_ + _) * 1 ≤ 140737488355328; omega)) ?_
           intro a1_ c1_
           refine RL.st ?_
           refine NV.p T ?_
           refine RL.nil _ _ _ _ ?_
           refine hK8 _ _ _ ?_
           refine SW.region _ _ _ _ ?_
           refine RL.st ?_
           first | refine NV.arith rfl rfl rfl rfl (by omega) (by omega) ?_ | refine NV.p T ?_
           refine RL.st ?_
           refine NV.p T ?_
           refine RL.nil _ _ _ _ ?_
           first
             | exact ⟨n - (k + 1), (by omega), k + 1, _, _, _, o, q + 1, true, (by rfl), ⟨by omega, ⟨by assumption, hI.stuff (by omega) (by omega) (by omega)⟩⟩, (.cons rfl (.cons rfl (.consI rfl (by omega) (.consB rfl (by first | rfl | assumption | exact decide_eq_true (by assumption) | exact decide_eq_false (by assumption) | (clear hK15 K15; clear hK12 K12; clear hK11 K11; clear hK10 K10; clear hK9 K9; clear hK8 K8; clear hK7 K7; clear hK6 K6; clear hK5 K5; clear hK4 K4; clear hK3 K3; clear hK2 K2; clear hK1 K1; clear hK0 K0;  simp_all)) (.nil (by repeat first | exact Mx.refl | exact Mx.mix | refine Mx.put rfl ?_ | refine Mx.upd rfl ?_ | refine Mx.updl rfl ?_ | refine Mx.fin rfl ?_ | refine Mx.inner rfl ?_ | refine Mx.none ?_)))))), rfl, rfl⟩
             | exact ⟨n - (k + 1), (by omega), k + 1, _, _, _, o ++ [es.getD k 0], q, false, (by rfl), ⟨by omega, ⟨by simp; omega, hI.see (by omega) (by omega)⟩⟩, (.cons rfl (.cons rfl (.consI rfl (by omega) (.consB rfl (by first | rfl | assumption | exact decide_eq_true (by assumption) | exact decide_eq_false (by assumption) | (clear hK15 K15; clear hK12 K12; clear hK11 K11; clear hK10 K10; clear hK9 K9; clear hK8 K8; clear hK7 K7; clear hK6 K6; clear hK5 K5; clear hK4 K4; clear hK3 K3; clear hK2 K2; clear hK1 K1; clear hK0 K0;  simp_all)) (.nil (by repeat first | exact Mx.refl | exact Mx.mix | refine Mx.put rfl ?_ | refine Mx.upd rfl ?_ | refine Mx.updl rfl ?_ | refine Mx.fin rfl ?_ | refine Mx.inner rfl ?_ | refine Mx.none ?_)))))), rfl, (by simp)⟩
           )
        )
     )
  ·try simp only [decide_eq_true_eq, decide_eq_false_iff_not, Bool.not_eq_true', Bool.not_eq_false', Int.not_lt, Int.not_le, Int.toNat_natCast] at hc0
   first
    | (exfalso; clear hK7 K7; clear hK6 K6; clear hK5 K5; clear hK4 K4; clear hK3 K3; clear hK2 K2; clear hK1 K1; clear hK0 K0; first | omega | contradiction)
    | (
     refine SW.exit ?_
     refine hK4 _ _ _ ?_
     refine SW.seq_k ?_
     intro K16 hK16
     refine SW.region _ _ _ _ ?_
     refine RL.st ?_
     refine NV.p T ?_
     refine RL.st ?_
     refine NV.p T ?_
     refine RL.st ?_
     refine NV.p T ?_
     refine RL.st ?_
     refine NV.p T ?_
     refine RL.st ?_
     refine NV.p T ?_
     refine RL.st ?_
     refine NV.p T ?_
     refine RL.st ?_
     refine NV.p T ?_
     refine RL.nil _ _ _ _ ?_
     refine hK16 _ _ _ ?_
     refine SW.sat (fun hs => ?_)
     refine SW.ret ?_
     refine retQ.ret (RVs.tmp (by conv => lhs; whnf) (RVs.tmp (by conv => lhs; whnf) (RVs.tmp (by conv => lhs; whnf) (RVs.tmp (by conv => lhs; whnf) RVs.nil)))) (fun w hw => hw) ?_
     clear hK16 K16 hK7 K7 hK6 K6 hK5 K5 hK4 K4 hK3 K3 hK2 K2 hK1 K1 hK0 K0
     first
       | (have h := hI.done (by omega)
          rw [hg] at h
          obtain ⟨rfl, rfl, rfl⟩ : o' = o ∧ q' = q ∧ d' = d := by simpa using h
          obtain rfl := hL
          exact ⟨_, rfl, Res.row hs (At.head _ _) (G := [_]) rfl⟩)
       | (exfalso; have h := hI.bad (by omega) (by omega) (by omega); rw [hg] at h; cases h)
     )
theorem rsplit_no {w0 : World} {H : List Chunk} (sa : Option Addr) (n c : Nat) (es : List Int) (hR : Rd w0 H sa n c 1 (es.map (.int .u8))) (hn : n = es.length) (hm : n ≤ 140737488351232) (hg : getF [] ([], 0, false) es = none) : SC Try.prog w0 28 #[.slice sa n c] H (fun v H' => v = .tuple #[.slice none 0 0, .int .i64 0, .bool false, .bool false] ∧ H' = H) := by
 refine SC.enter Try.func28 rfl (Nat.le_of_ble_eq_true rfl) ?_
 refine SW.seq_k ?_
 intro K0 hK0
 refine SW.region _ _ _ _ ?_
 refine RL.st ?_
 refine NV.p T ?_
 refine RL.st ?_
 refine NV.p T ?_
 refine RL.st ?_
 refine NV.p T ?_
 refine RL.st ?_
 refine NV.p T ?_
 refine RL.nil _ _ _ _ ?_
 refine hK0 _ _ _ ?_
 refine SW.seq_k ?_
 intro K1 hK1
 refine SW.region _ _ _ _ ?_
 refine RL.nilrow 5 1 ?_
 refine RL.st ?_
 refine NV.p T ?_
 refine RL.nil _ _ _ _ ?_
 refine hK1 _ _ _ ?_
 refine SW.seq_k ?_
 intro K2 hK2
 refine SW.region _ _ _ _ ?_
 refine RL.st ?_
 refine NV.p T ?_
 refine RL.nil _ _ _ _ ?_
 refine hK2 _ _ _ ?_
 refine SW.seq_k ?_
 intro K3 hK3
 refine SW.region _ _ _ _ ?_
 refine RL.st ?_
 refine NV.p T ?_
 refine RL.nil _ _ _ _ ?_
 refine hK3 _ _ _ ?_
 refine SW.seq_k ?_
 intro K4 hK4
 refine SW.seq_k ?_
 intro K5 hK5
 refine SW.region _ _ _ _ ?_
 refine RL.st ?_
 refine NV.p T ?_
 refine RL.st ?_
 refine NV.p T ?_
 refine RL.st ?_
 refine NV.p T ?_
 refine RL.nil _ _ _ _ ?_
 refine hK5 _ _ _ ?_
 refine SW.block ?_
 refine SW.loopM (fun frB mm fr ds HH => ∃ (k : Nat) (sr : Option Addr) (L cr : Nat) (o : List Int) (q : Int) (d : Bool), mm = n - k ∧ (k ≤ n ∧ (L = o.length ∧ UI es k o q d)) ∧ FrIs [2, 3, 4, 5, 6, 7, 8, 9, 10, 13, 14, 15, 16, 17, 18, 19, 20, 21, 22, 23, 24, 25, 26, 27, 28, 29, 30, 31, 32, 33, 34, 35, 36, 37, 38, 39] frB fr [(13, .int .i64 k), (6, .slice sr L cr), (7, .int .i64 q), (8, .bool d)] ∧ ds = [] ∧ HH = (.row sr L cr 5 1 (o.map (.int .u8)) :: H)) (n := n - 0) ?_ ?_
 ·exact ⟨0, none, 0, 0, [], 0, false, rfl, ⟨Nat.zero_le _, ⟨rfl, UI.start⟩⟩, (.cons rfl (.cons rfl (.consI rfl (by omega) (.consB rfl (by first | rfl | assumption | exact decide_eq_true (by assumption) | exact decide_eq_false (by assumption) | (clear hK5 K5; clear hK4 K4; clear hK3 K3; clear hK2 K2; clear hK1 K1; clear hK0 K0;  simp_all)) (.nil (by repeat first | exact Mx.refl | exact Mx.mix | refine Mx.put rfl ?_ | refine Mx.upd rfl ?_ | refine Mx.updl rfl ?_ | refine Mx.fin rfl ?_ | refine Mx.inner rfl ?_ | refine Mx.none ?_)))))), rfl, rfl⟩
 ·rintro mm fr ds HH ⟨k, sr, L, cr, o, q, d, rfl, ⟨hk, ⟨hL, hI⟩⟩, hFr, rfl, eHH⟩
  obtain rfl := eHH.symm
  obtain ⟨frU, rfl⟩ := hFr.eq
  clear hFr
  have hkn := hI.kn
  have hlen := hI.len
  have h5' := hI.r5
  have hq0 := hI.n0
  have hqk := hI.nk
  have hcap := hR.cap
  have hr1 := (st_range (es.take k)).2
  rw [List.length_take] at hr1
  have hla : 0 < k → es.getD (((k : Nat) : Int) - 1).toNat 0 = (st (es.take k)).1 := fun h => by
    rw [st_last _ (by rw [List.length_take]; omega), List.length_take]
    rw [List.getD_eq_getElem?_getD, List.getD_eq_getElem?_getD, List.getElem?_take, if_pos (by omega)]
    congr 2; omega
  refine SW.seq_k ?_
  intro K6 hK6
  refine SW.region _ _ _ _ ?_
  refine RL.st ?_
  refine NV.p T ?_
  refine RL.nil _ _ _ _ ?_
  refine hK6 _ _ _ ?_
  refine SW.seq_k ?_
  intro K7 hK7
  refine SW.cond rfl (fun hc0 => ?_) (fun hc0 => ?_)
  ·try simp only [decide_eq_true_eq, decide_eq_false_iff_not, Bool.not_eq_true', Bool.not_eq_false', Int.not_lt, Int.not_le, Int.toNat_natCast] at hc0
   first
    | (exfalso; clear hK7 K7; clear hK6 K6; clear hK5 K5; clear hK4 K4; clear hK3 K3; clear hK2 K2; clear hK1 K1; clear hK0 K0; first | omega | contradiction)
    | (
     refine SW.skip ?_
     refine hK7 _ _ _ ?_
     refine SW.seq_k ?_
     intro K8 hK8
     refine SW.block ?_
     refine SW.seq_k ?_
     intro K9 hK9
     refine SW.region _ _ _ _ ?_
     refine RL.st ?_
     refine NV.p T ?_
     refine RL.st ?_
     first
       | refine NV.index_array T rfl rfl rfl rfl rfl (by omega) (by omega) ?_
       | refine NV.index_slice T rfl rfl rfl rfl rfl hR.cons (by omega) (by omega) ?_
     refine RL.st ?_
     refine NV.load_elem T rfl rfl rfl rfl hR.cons (by first | exact map_as (by omega) (hla (by omega)) | exact map_get _ _ (by omega)) ?_
     refine RL.st ?_
     refine NV.p T ?_
     refine RL.st ?_
     refine NV.p T ?_
     refine RL.nil _ _ _ _ ?_
     refine hK9 _ _ _ ?_
     refine SW.seq_k ?_
     intro K10 hK10
     refine SW.region _ _ _ _ ?_
     refine RL.st ?_
     refine NV.p T ?_
     refine RL.st ?_
     refine NV.p T ?_
     refine RL.st ?_
     refine NV.slice (h := k) T rfl rfl rfl rfl rfl ⟨_, rfl⟩ (by omega) (by omega) ?_
     refine RL.st ?_
     refine NV.call rfl rfl rfl fun34 rfl rfl ((rfull _ (k - 0) (c - 0) (es.take k) ((hR.cons.sub (l := 0) (h := k) (by omega) (by omega)).as (by simp [List.map_take])) (by simp; omega) (by omega)).mono (fun v H' h => by rw [full5_st] at h; exact h)) ?_
     rintro _ _ ⟨rfl, e⟩; obtain rfl := e.symm
     refine RL.st ?_
     refine NV.p T ?_
     refine RL.nil _ _ _ _ ?_
     refine hK10 _ _ _ ?_
     refine SW.seq_k ?_
     intro K11 hK11
     refine SW.seq_k ?_
     intro K12 hK12
     refine SW.region _ _ _ _ ?_
     refine RL.st ?_
     refine NV.p T ?_
     refine RL.st ?_
     refine NV.p T ?_
     refine RL.split 23 rfl (fun hs0 => ?_) (fun hs0 => ?_)
     ·try simp only [decide_eq_true_eq, decide_eq_false_iff_not, Bool.not_eq_true', Bool.not_eq_false', Int.not_lt, Int.not_le, Int.toNat_natCast] at hs0
      first
       | (exfalso; clear hK12 K12; clear hK11 K11; clear hK10 K10; clear hK9 K9; clear hK8 K8; clear hK7 K7; clear hK6 K6; clear hK5 K5; clear hK4 K4; clear hK3 K3; clear hK2 K2; clear hK1 K1; clear hK0 K0; first | omega | contradiction)
       | (
        refine RL.st ?_
        refine NV.p T ?_
        refine RL.st ?_
        refine NV.p T ?_
        refine RL.st ?_
        refine NV.p T ?_
        refine RL.st ?_
        first | refine NV.arith rfl rfl rfl rfl (by omega) (by omega) ?_ | refine NV.p T ?_
        refine RL.st ?_
        first
          | refine NV.index_array T rfl rfl rfl rfl rfl (by omega) (by omega) ?_
          | refine NV.index_slice T rfl rfl rfl rfl rfl hR.cons (by omega) (by omega) ?_
        refine RL.st ?_
        refine NV.load_elem T rfl rfl rfl rfl hR.cons (by first | exact map_as (by omega) (hla (by omega)) | exact map_get _ _ (by omega)) ?_
        refine RL.st ?_
        refine NV.p T ?_
        refine RL.st ?_
        refine NV.p T ?_
        refine RL.nil _ _ _ _ ?_
        refine hK12 _ _ _ ?_
        refine SW.cond rfl (fun hc1 => ?_) (fun hc1 => ?_)
        ·try simp only [decide_eq_true_eq, decide_eq_false_iff_not, Bool.not_eq_true', Bool.not_eq_false', Int.not_lt, Int.not_le, Int.toNat_natCast] at hc1
         first
          | (exfalso; clear hK12 K12; clear hK11 K11; clear hK10 K10; clear hK9 K9; clear hK8 K8; clear hK7 K7; clear hK6 K6; clear hK5 K5; clear hK4 K4; clear hK3 K3; clear hK2 K2; clear hK1 K1; clear hK0 K0; first | omega | contradiction)
          | (
           refine SW.seq_k ?_
           intro K13 hK13
           refine SW.region _ _ _ _ ?_
           refine RL.st ?_
           refine NV.p T ?_
           refine RL.st ?_
           refine NV.p T ?_
           refine RL.st ?_
           refine NV.p T ?_
           refine RL.st ?_
           refine NV.p T ?_
           refine RL.nil _ _ _ _ ?_
           refine hK13 _ _ _ ?_
           refine SW.sat (fun hs => ?_)
           refine SW.ret ?_
           refine retQ.ret (H' := H) (RVs.tmp (by conv => lhs; whnf) (RVs.tmp (by conv => lhs; whnf) (RVs.tmp (by conv => lhs; whnf) (RVs.tmp (by conv => lhs; whnf) RVs.nil)))) (fun w hw => Sat.sub (by repeat first | exact List.Sublist.refl _ | apply List.Sublist.cons_cons | apply List.Sublist.cons | exact List.sublist_append_right _ _ | refine List.Sublist.trans ?_ (List.sublist_append_right _ _)) hw) ?_
           clear hK13 K13 hK12 K12 hK11 K11 hK10 K10 hK9 K9 hK8 K8 hK7 K7 hK6 K6 hK5 K5 hK4 K4 hK3 K3 hK2 K2 hK1 K1 hK0 K0
           first
             | exact ⟨rfl, rfl⟩
             | (exfalso; have h := hI.done (by omega); rw [hg] at h; cases h)
           )
        ·try simp only [decide_eq_true_eq, decide_eq_false_iff_not, Bool.not_eq_true', Bool.not_eq_false', Int.not_lt, Int.not_le, Int.toNat_natCast] at hc1
         first
          | (exfalso; clear hK12 K12; clear hK11 K11; clear hK10 K10; clear hK9 K9; clear hK8 K8; clear hK7 K7; clear hK6 K6; clear hK5 K5; clear hK4 K4; clear hK3 K3; clear hK2 K2; clear hK1 K1; clear hK0 K0; first | omega | contradiction)
          | (
           refine SW.skip ?_
           refine hK11 _ _ _ ?_
           refine SW.seq_k ?_
           intro K14 hK14
           refine SW.region _ _ _ _ ?_
           refine RL.st ?_
           refine NV.p T ?_
           refine RL.nil _ _ _ _ ?_
           refine hK14 _ _ _ ?_
           refine SW.cond rfl (fun hc2 => ?_) (fun hc2 => ?_)
           ·try simp only [decide_eq_true_eq, decide_eq_false_iff_not, Bool.not_eq_true', Bool.not_eq_false', Int.not_lt, Int.not_le, Int.toNat_natCast] at hc2
            first
             | (exfalso; clear hK14 K14; clear hK12 K12; clear hK11 K11; clear hK10 K10; clear hK9 K9; clear hK8 K8; clear hK7 K7; clear hK6 K6; clear hK5 K5; clear hK4 K4; clear hK3 K3; clear hK2 K2; clear hK1 K1; clear hK0 K0; first | omega | contradiction)
             | (
              refine SW.region _ _ _ _ ?_
              refine RL.st ?_
              refine NV.p T ?_
              refine RL.st ?_
              first | refine NV.arith rfl rfl rfl rfl (by omega) (by omega) ?_ | refine NV.p T ?_
              refine RL.st ?_
              refine NV.p T ?_
              refine RL.nil _ _ _ _ ?_
              refine hK8 _ _ _ ?_
              refine SW.region _ _ _ _ ?_
              refine RL.st ?_
              first | refine NV.arith rfl rfl rfl rfl (by omega) (by omega) ?_ | refine NV.p T ?_
              refine RL.st ?_
              refine NV.p T ?_
              refine RL.nil _ _ _ _ ?_
              first
                | exact ⟨n - (k + 1), (by omega), k + 1, _, _, _, o, q + 1, true, (by rfl), ⟨by omega, ⟨by assumption, hI.stuff (by omega) (by omega) (by omega)⟩⟩, (.cons rfl (.cons rfl (.consI rfl (by omega) (.consB rfl (by first | rfl | assumption | exact decide_eq_true (by assumption) | exact decide_eq_false (by assumption) | (clear hK14 K14; clear hK12 K12; clear hK11 K11; clear hK10 K10; clear hK9 K9; clear hK8 K8; clear hK7 K7; clear hK6 K6; clear hK5 K5; clear hK4 K4; clear hK3 K3; clear hK2 K2; clear hK1 K1; clear hK0 K0;  simp_all)) (.nil (by repeat first | exact Mx.refl | exact Mx.mix | refine Mx.put rfl ?_ | refine Mx.upd rfl ?_ | refine Mx.updl rfl ?_ | refine Mx.fin rfl ?_ | refine Mx.inner rfl ?_ | refine Mx.none ?_)))))), rfl, rfl⟩
                | exact ⟨n - (k + 1), (by omega), k + 1, _, _, _, o ++ [es.getD k 0], q, false, (by rfl), ⟨by omega, ⟨by simp; omega, hI.see (by omega) (by omega)⟩⟩, (.cons rfl (.cons rfl (.consI rfl (by omega) (.consB rfl (by first | rfl | assumption | exact decide_eq_true (by assumption) | exact decide_eq_false (by assumption) | (clear hK14 K14; clear hK12 K12; clear hK11 K11; clear hK10 K10; clear hK9 K9; clear hK8 K8; clear hK7 K7; clear hK6 K6; clear hK5 K5; clear hK4 K4; clear hK3 K3; clear hK2 K2; clear hK1 K1; clear hK0 K0;  simp_all)) (.nil (by repeat first | exact Mx.refl | exact Mx.mix | refine Mx.put rfl ?_ | refine Mx.upd rfl ?_ | refine Mx.updl rfl ?_ | refine Mx.fin rfl ?_ | refine Mx.inner rfl ?_ | refine Mx.none ?_)))))), rfl, (by simp)⟩
              )
           ·try simp only [decide_eq_true_eq, decide_eq_false_iff_not, Bool.not_eq_true', Bool.not_eq_false', Int.not_lt, Int.not_le, Int.toNat_natCast] at hc2
            first
             | (exfalso; clear hK14 K14; clear hK12 K12; clear hK11 K11; clear hK10 K10; clear hK9 K9; clear hK8 K8; clear hK7 K7; clear hK6 K6; clear hK5 K5; clear hK4 K4; clear hK3 K3; clear hK2 K2; clear hK1 K1; clear hK0 K0; first | omega | contradiction)
             | (
              refine SW.region _ _ _ _ ?_
              refine RL.st ?_
              refine NV.p T ?_
              refine RL.st ?_
              refine NV.p T ?_
              refine RL.st ?_
              refine NV.build1 T rfl (by conv => lhs; whnf) rfl rfl (by conv => lhs; whnf) (by exact (rfl : _ = some [_])) ?_
              intro b37_0
              refine RL.st ?_
              first
                | refine NV.append1 T rfl rfl rfl rfl rfl rfl rfl rfl rfl rfl (by repeat first | exact At.head _ _ | assumption | exact At.put (by assumption) _ | apply At.tail | apply At.app) (ones rfl) (by first | omega | (unfold maxLen; omega)) (by first | omega | (show (_ + _) * 1 ≤ 140737488355328; omega)) ?_
                | refine NV.append T rfl rfl rfl rfl rfl rfl rfl rfl rfl rfl (by repeat first | exact At.head _ _ | assumption | exact At.put (by assumption) _ | apply At.tail | apply At.app) (by assumption) (ones rfl) (by first | omega | (unfold maxLen; omega)) (by first | omega | (show (_ + _) * 1 ≤ 140737488355328; omega)) ?_
              intro a0_ c0_
              refine RL.st ?_
              refine NV.p T ?_
              refine RL.nil _ _ _ _ ?_
              refine hK8 _ _ _ ?_
              refine SW.region _ _ _ _ ?_
              refine RL.st ?_
              first | refine NV.arith rfl rfl rfl rfl (by omega) (by omega) ?_ | refine NV.p T ?_
              refine RL.st ?_
              refine NV.p T ?_
              refine RL.nil _ _ _ _ ?_
              first
                | exact ⟨n - (k + 1), (by omega), k + 1, _, _, _, o, q + 1, true, (by rfl), ⟨by omega, ⟨by assumption, hI.stuff (by omega) (by omega) (by omega)⟩⟩, (.cons rfl (.cons rfl (.consI rfl (by omega) (.consB rfl (by first | rfl | assumption | exact decide_eq_true (by assumption) | exact decide_eq_false (by assumption) | (clear hK14 K14; clear hK12 K12; clear hK11 K11; clear hK10 K10; clear hK9 K9; clear hK8 K8; clear hK7 K7; clear hK6 K6; clear hK5 K5; clear hK4 K4; clear hK3 K3; clear hK2 K2; clear hK1 K1; clear hK0 K0;  simp_all)) (.nil (by repeat first | exact Mx.refl | exact Mx.mix | refine Mx.put rfl ?_ | refine Mx.upd rfl ?_ | refine Mx.updl rfl ?_ | refine Mx.fin rfl ?_ | refine Mx.inner rfl ?_ | refine Mx.none ?_)))))), rfl, rfl⟩
                | exact ⟨n - (k + 1), (by omega), k + 1, _, _, _, o ++ [es.getD k 0], q, false, (by rfl), ⟨by omega, ⟨by simp; omega, hI.see (by omega) (by omega)⟩⟩, (.cons rfl (.cons rfl (.consI rfl (by omega) (.consB rfl (by first | rfl | assumption | exact decide_eq_true (by assumption) | exact decide_eq_false (by assumption) | (clear hK14 K14; clear hK12 K12; clear hK11 K11; clear hK10 K10; clear hK9 K9; clear hK8 K8; clear hK7 K7; clear hK6 K6; clear hK5 K5; clear hK4 K4; clear hK3 K3; clear hK2 K2; clear hK1 K1; clear hK0 K0;  simp_all)) (.nil (by repeat first | exact Mx.refl | exact Mx.mix | refine Mx.put rfl ?_ | refine Mx.upd rfl ?_ | refine Mx.updl rfl ?_ | refine Mx.fin rfl ?_ | refine Mx.inner rfl ?_ | refine Mx.none ?_)))))), rfl, (by simp)⟩
              )
           )
        )
     ·try simp only [decide_eq_true_eq, decide_eq_false_iff_not, Bool.not_eq_true', Bool.not_eq_false', Int.not_lt, Int.not_le, Int.toNat_natCast] at hs0
      first
       | (exfalso; clear hK12 K12; clear hK11 K11; clear hK10 K10; clear hK9 K9; clear hK8 K8; clear hK7 K7; clear hK6 K6; clear hK5 K5; clear hK4 K4; clear hK3 K3; clear hK2 K2; clear hK1 K1; clear hK0 K0; first | omega | contradiction)
       | (
        refine RL.guard_no rfl rfl rfl ?_
        refine RL.guard_no rfl rfl rfl ?_
        refine RL.guard_no rfl rfl rfl ?_
        refine RL.guard_no rfl rfl rfl ?_
        refine RL.guard_no rfl rfl rfl ?_
        refine RL.guard_no rfl rfl rfl ?_
        refine RL.guard_no rfl rfl rfl ?_
        refine RL.st ?_
        refine NV.p T ?_
        refine RL.nil _ _ _ _ ?_
        refine hK12 _ _ _ ?_
        refine SW.cond_f rfl ?_
        refine SW.skip ?_
        refine hK11 _ _ _ ?_
        refine SW.seq_k ?_
        intro K15 hK15
        refine SW.region _ _ _ _ ?_
        refine RL.st ?_
        refine NV.p T ?_
        refine RL.nil _ _ _ _ ?_
        refine hK15 _ _ _ ?_
        refine SW.cond rfl (fun hc3 => ?_) (fun hc3 => ?_)
        ·try simp only [decide_eq_true_eq, decide_eq_false_iff_not, Bool.not_eq_true', Bool.not_eq_false', Int.not_lt, Int.not_le, Int.toNat_natCast] at hc3
         first
          | (exfalso; clear hK15 K15; clear hK12 K12; clear hK11 K11; clear hK10 K10; clear hK9 K9; clear hK8 K8; clear hK7 K7; clear hK6 K6; clear hK5 K5; clear hK4 K4; clear hK3 K3; clear hK2 K2; clear hK1 K1; clear hK0 K0; first | omega | contradiction)
          | (
           refine SW.region _ _ _ _ ?_
           refine RL.st ?_
           refine NV.p T ?_
           refine RL.st ?_
           first | refine NV.arith rfl rfl rfl rfl (by omega) (by omega) ?_ | refine NV.p T ?_
           refine RL.st ?_
           refine NV.p T ?_
           refine RL.nil _ _ _ _ ?_
           refine hK8 _ _ _ ?_
           refine SW.region _ _ _ _ ?_
           refine RL.st ?_
           first | refine NV.arith rfl rfl rfl rfl (by omega) (by omega) ?_ | refine NV.p T ?_
           refine RL.st ?_
           refine NV.p T ?_
           refine RL.nil _ _ _ _ ?_
           first
             | exact ⟨n - (k + 1), (by omega), k + 1, _, _, _, o, q + 1, true, (by rfl), ⟨by omega, ⟨by assumption, hI.stuff (by omega) (by omega) (by omega)⟩⟩, (.cons rfl (.cons rfl (.consI rfl (by omega) (.consB rfl (by first | rfl | assumption | exact decide_eq_true (by assumption) | exact decide_eq_false (by assumption) | (clear hK15 K15; clear hK12 K12; clear hK11 K11; clear hK10 K10; clear hK9 K9; clear hK8 K8; clear hK7 K7; clear hK6 K6; clear hK5 K5; clear hK4 K4; clear hK3 K3; clear hK2 K2; clear hK1 K1; clear hK0 K0;  simp_all)) (.nil (by repeat first | exact Mx.refl | exact Mx.mix | refine Mx.put rfl ?_ | refine Mx.upd rfl ?_ | refine Mx.updl rfl ?_ | refine Mx.fin rfl ?_ | refine Mx.inner rfl ?_ | refine Mx.none ?_)))))), rfl, rfl⟩
             | exact ⟨n - (k + 1), (by omega), k + 1, _, _, _, o ++ [es.getD k 0], q, false, (by rfl), ⟨by omega, ⟨by simp; omega, hI.see (by omega) (by omega)⟩⟩, (.cons rfl (.cons rfl (.consI rfl (by omega) (.consB rfl (by first | rfl | assumption | exact decide_eq_true (by assumption) | exact decide_eq_false (by assumption) | (clear hK15 K15; clear hK12 K12; clear hK11 K11; clear hK10 K10; clear hK9 K9; clear hK8 K8; clear hK7 K7; clear hK6 K6; clear hK5 K5; clear hK4 K4; clear hK3 K3; clear hK2 K2; clear hK1 K1; clear hK0 K0;  simp_all)) (.nil (by repeat first | exact Mx.refl | exact Mx.mix | refine Mx.put rfl ?_ | refine Mx.upd rfl ?_ | refine Mx.updl rfl ?_ | refine Mx.fin rfl ?_ | refine Mx.inner rfl ?_ | refine Mx.none ?_)))))), rfl, (by simp)⟩
           )
        ·try simp only [decide_eq_true_eq, decide_eq_false_iff_not, Bool.not_eq_true', Bool.not_eq_false', Int.not_lt, Int.not_le, Int.toNat_natCast] at hc3
         first
          | (exfalso; clear hK15 K15; clear hK12 K12; clear hK11 K11; clear hK10 K10; clear hK9 K9; clear hK8 K8; clear hK7 K7; clear hK6 K6; clear hK5 K5; clear hK4 K4; clear hK3 K3; clear hK2 K2; clear hK1 K1; clear hK0 K0; first | omega | contradiction)
          | (
           refine SW.region _ _ _ _ ?_
           refine RL.st ?_
           refine NV.p T ?_
           refine RL.st ?_
           refine NV.p T ?_
           refine RL.st ?_
           refine NV.build1 T rfl (by conv => lhs; whnf) rfl rfl (by conv => lhs; whnf) (by exact (rfl : _ = some [_])) ?_
           intro b37_1
           refine RL.st ?_
           first
             | refine NV.append1 T rfl rfl rfl rfl rfl rfl rfl rfl rfl rfl (by repeat first | exact At.head _ _ | assumption | exact At.put (by assumption) _ | apply At.tail | apply At.app) (ones rfl) (by first | omega | (unfold maxLen; omega)) (by first | omega | (show (_ + _) * 1 ≤ 140737488355328; omega)) ?_
             | refine NV.append T rfl rfl rfl rfl rfl rfl rfl rfl rfl rfl (by repeat first | exact At.head _ _ | assumption | exact At.put (by assumption) _ | apply At.tail | apply At.app) (by assumption) (ones rfl) (by first | omega | (unfold maxLen; omega)) (by first | omega | (show (_ + _) * 1 ≤ 140737488355328; omega)) ?_
           intro a1_ c1_
           refine RL.st ?_
           refine NV.p T ?_
           refine RL.nil _ _ _ _ ?_
           refine hK8 _ _ _ ?_
           refine SW.region _ _ _ _ ?_
           refine RL.st ?_
           first | refine NV.arith rfl rfl rfl rfl (by omega) (by omega) ?_ | refine NV.p T ?_
           refine RL.st ?_
           refine NV.p T ?_
           refine RL.nil _ _ _ _ ?_
           first
             | exact ⟨n - (k + 1), (by omega), k + 1, _, _, _, o, q + 1, true, (by rfl), ⟨by omega, ⟨by assumption, hI.stuff (by omega) (by omega) (by omega)⟩⟩, (.cons rfl (.cons rfl (.consI rfl (by omega) (.consB rfl (by first | rfl | assumption | exact decide_eq_true (by assumption) | exact decide_eq_false (by assumption) | (clear hK15 K15; clear hK12 K12; clear hK11 K11; clear hK10 K10; clear hK9 K9; clear hK8 K8; clear hK7 K7; clear hK6 K6; clear hK5 K5; clear hK4 K4; clear hK3 K3; clear hK2 K2; clear hK1 K1; clear hK0 K0;  simp_all)) (.nil (by repeat first | exact Mx.refl | exact Mx.mix | refine Mx.put rfl ?_ | refine Mx.upd rfl ?_ | refine Mx.updl rfl ?_ | refine Mx.fin rfl ?_ | refine Mx.inner rfl ?_ | refine Mx.none ?_)))))), rfl, rfl⟩
             | exact ⟨n - (k + 1), (by omega), k + 1, _, _, _, o ++ [es.getD k 0], q, false, (by rfl), ⟨by omega, ⟨by simp; omega, hI.see (by omega) (by omega)⟩⟩, (.cons rfl (.cons rfl (.consI rfl (by omega) (.consB rfl (by first | rfl | assumption | exact decide_eq_true (by assumption) | exact decide_eq_false (by assumption) | (clear hK15 K15; clear hK12 K12; clear hK11 K11; clear hK10 K10; clear hK9 K9; clear hK8 K8; clear hK7 K7; clear hK6 K6; clear hK5 K5; clear hK4 K4; clear hK3 K3; clear hK2 K2; clear hK1 K1; clear hK0 K0;  simp_all)) (.nil (by repeat first | exact Mx.refl | exact Mx.mix | refine Mx.put rfl ?_ | refine Mx.upd rfl ?_ | refine Mx.updl rfl ?_ | refine Mx.fin rfl ?_ | refine Mx.inner rfl ?_ | refine Mx.none ?_)))))), rfl, (by simp)⟩
           )
        )
     )
  ·try simp only [decide_eq_true_eq, decide_eq_false_iff_not, Bool.not_eq_true', Bool.not_eq_false', Int.not_lt, Int.not_le, Int.toNat_natCast] at hc0
   first
    | (exfalso; clear hK7 K7; clear hK6 K6; clear hK5 K5; clear hK4 K4; clear hK3 K3; clear hK2 K2; clear hK1 K1; clear hK0 K0; first | omega | contradiction)
    | (
     refine SW.exit ?_
     refine hK4 _ _ _ ?_
     refine SW.seq_k ?_
     intro K16 hK16
     refine SW.region _ _ _ _ ?_
     refine RL.st ?_
     refine NV.p T ?_
     refine RL.st ?_
     refine NV.p T ?_
     refine RL.st ?_
     refine NV.p T ?_
     refine RL.st ?_
     refine NV.p T ?_
     refine RL.st ?_
     refine NV.p T ?_
     refine RL.st ?_
     refine NV.p T ?_
     refine RL.st ?_
     refine NV.p T ?_
     refine RL.nil _ _ _ _ ?_
     refine hK16 _ _ _ ?_
     refine SW.sat (fun hs => ?_)
     refine SW.ret ?_
     refine retQ.ret (H' := H) (RVs.tmp (by conv => lhs; whnf) (RVs.tmp (by conv => lhs; whnf) (RVs.tmp (by conv => lhs; whnf) (RVs.tmp (by conv => lhs; whnf) RVs.nil)))) (fun w hw => Sat.sub (by repeat first | exact List.Sublist.refl _ | apply List.Sublist.cons_cons | apply List.Sublist.cons | exact List.sublist_append_right _ _ | refine List.Sublist.trans ?_ (List.sublist_append_right _ _)) hw) ?_
     clear hK16 K16 hK7 K7 hK6 K6 hK5 K5 hK4 K4 hK3 K3 hK2 K2 hK1 K1 hK0 K0
     first
       | exact ⟨rfl, rfl⟩
       | (exfalso; have h := hI.done (by omega); rw [hg] at h; cases h)
     )
end Go.Proofs.Ytilffbgepliamaa.M
