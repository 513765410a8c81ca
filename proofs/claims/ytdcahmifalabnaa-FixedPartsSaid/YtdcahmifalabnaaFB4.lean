import Derived.Test.YtdcahmifalabnaaProg
import Derived.Test.YtdcahmifalabnaaFA4
set_option linter.unusedVariables false
set_option linter.unusedSimpArgs false
namespace Go.Proofs.Ytdcahmifalabnaa.M
open Go Go.Sep Go.Proofs
set_option maxRecDepth 10000
set_option maxHeartbeats 2000000
theorem raw {w0 : World} {H : List Chunk} (prev ev : Int) (ah : Bool) (sa : Option Addr) (n c : Nat) (es : List Int) (hR : Rd w0 H sa n c 1 (es.map (.int .u8))) (hn : n = es.length) (hm : n ≤ 140737488351232) (e1 : 1 ≤ ev) (e2 : ev ≤ 64) (p0 : 0 ≤ prev) (p1 : prev ≤ 1) (hz : Bit es) (h5 : n ≤ 65536) : SC Try.prog w0 31 #[.int .u8 prev, .slice sa n c, .agg #[.int .i64 ev, .bool ah]] H (fun v H' => Res w0 H (putS ev prev (if ah then 0 else ev) es) v H') := by
 refine SC.enter Try.func31 rfl (Nat.le_of_ble_eq_true rfl) ?_
 refine SW.seq_k ?_
 intro K0 hK0
 refine SW.region _ _ _ _ ?_
 refine RL.st ?_
 refine NV.box rfl (by exact (rfl : _ = [_, _])) ?_
 intro b5_0
 refine RL.st ?_
 refine NV.p T ?_
 refine RL.nil _ _ _ _ ?_
 refine hK0 _ _ _ ?_
 refine SW.seq_k ?_
 intro K1 hK1
 refine SW.region _ _ _ _ ?_
 refine RL.st ?_
 refine NV.p T ?_
 refine RL.st ?_
 refine NV.build1 T rfl (by conv => lhs; whnf) rfl rfl (by conv => lhs; whnf) (by exact (rfl : _ = some [_])) ?_
 intro b11_1
 refine RL.st ?_
 refine NV.p T ?_
 refine RL.nil _ _ _ _ ?_
 refine hK1 _ _ _ ?_
 refine SW.seq_k ?_
 intro K2 hK2
 refine SW.seq_k ?_
 intro K3 hK3
 refine SW.region _ _ _ _ ?_
 refine RL.st ?_
 refine NV.p T ?_
 refine RL.st ?_
 refine NV.p T ?_
 refine RL.st ?_
 refine NV.p T ?_
 refine RL.nil _ _ _ _ ?_
 refine hK3 _ _ _ ?_
 refine SW.block ?_
 refine SW.loopM (fun frB mm fr ds HH => ∃ (k : Nat) (sr : Option Addr) (L cr : Nat) (o : List Int), mm = n - k ∧ (k ≤ n ∧ (L = o.length ∧ RI ev ah prev es k o)) ∧ FrIs [7, 8, 9, 14, 15, 16, 17, 18, 19, 20, 21, 22, 23, 24, 25, 26, 27, 28, 29, 30, 31, 32, 33, 34, 35, 36, 37, 38, 39, 40, 41, 42, 43, 44, 45, 46, 47, 48, 49, 50] frB fr [(14, .int .i64 k), (7, .slice sr L cr)] ∧ ds = [] ∧ HH = (.row sr L cr 5 1 (o.map (.int .u8)) :: .var b5_0 24 [.int .i64 ev, .bool ah] :: H)) (n := n - 0) ?_ ?_
 ·exact ⟨0, _, 1, 1, [prev], rfl, ⟨Nat.zero_le _, ⟨rfl, RI.start p0 p1⟩⟩, (.cons rfl (.cons rfl (.nil (by repeat first | exact Mx.refl | exact Mx.mix | refine Mx.put rfl ?_ | refine Mx.upd rfl ?_ | refine Mx.updl rfl ?_ | refine Mx.fin rfl ?_ | refine Mx.inner rfl ?_ | refine Mx.none ?_)))), rfl, rfl⟩
 ·rintro mm fr ds HH ⟨k, sr, L, cr, o, rfl, ⟨hk, ⟨hL, hI⟩⟩, hFr, rfl, eHH⟩
  obtain rfl := eHH.symm
  obtain ⟨frU, rfl⟩ := hFr.eq
  clear hFr
  obtain ⟨last, hlast⟩ : ∃ z, o.getD (((L : Nat) : Int) - 1).toNat 0 = z := ⟨_, rfl⟩
  have hne := hI.ne
  have hb := hI.bits (((L : Nat) : Int) - 1).toNat
  rw [hlast] at hb
  have hlast2 : o.getD (o.length - 1) 0 = last := by rw [← hlast]; congr 1; omega
  have hlen := hI.len
  have hkn := hI.kn
  have hzk := hz k
  refine SW.seq_k ?_
  intro K4 hK4
  refine SW.region _ _ _ _ ?_
  refine RL.st ?_
  refine NV.p T ?_
  refine RL.nil _ _ _ _ ?_
  refine hK4 _ _ _ ?_
  refine SW.seq_k ?_
  intro K5 hK5
  refine SW.cond rfl (fun hc0 => ?_) (fun hc0 => ?_)
  ·try simp only [decide_eq_true_eq, decide_eq_false_iff_not, Bool.not_eq_true', Bool.not_eq_false', Int.not_lt, Int.not_le, Int.toNat_natCast] at hc0
   first
    | (exfalso; clear hK5 K5; clear hK4 K4; clear hK3 K3; clear hK2 K2; clear hK1 K1; clear hK0 K0; omega)
    | (
     refine SW.skip ?_
     refine hK5 _ _ _ ?_
     refine SW.seq_k ?_
     intro K6 hK6
     refine SW.block ?_
     refine SW.seq_k ?_
     intro K7 hK7
     refine SW.region _ _ _ _ ?_
     refine RL.st ?_
     refine NV.p T ?_
     refine RL.st ?_
     refine NV.sat (fun hs => ?_) (fun c hc => by cases hc)
     first
       | refine NV.index_array T rfl rfl rfl rfl rfl (by omega) (by omega) ?_
       | refine NV.index_slice T rfl rfl rfl rfl rfl (by first | exact hR | exact hR.cons | exact hR.cons.cons | exact hR.cons.cons.cons | exact Rd.row (At.head _ _) hs) (by omega) (by omega) ?_
     refine RL.st ?_
     refine NV.sat (fun hs => ?_) (fun c hc => by cases hc)
     refine NV.load_elem T rfl rfl rfl rfl (by first | exact hR | exact hR.cons | exact hR.cons.cons | exact hR.cons.cons.cons | exact Rd.row (At.head _ _) hs) (by first | exact map_as (by omega) hlast | exact map_get _ _ (by omega)) ?_
     refine RL.st ?_
     refine NV.p T ?_
     refine RL.st ?_
     refine NV.p T ?_
     refine RL.nil _ _ _ _ ?_
     refine hK7 _ _ _ ?_
     refine SW.seq_k ?_
     intro K8 hK8
     refine SW.seq_k ?_
     intro K9 hK9
     refine SW.region _ _ _ _ ?_
     refine RL.st ?_
     refine NV.p T ?_
     refine RL.st ?_
     refine NV.p T ?_
     refine RL.st ?_
     refine NV.p T ?_
     refine RL.split 21 rfl (fun hs0 => ?_) (fun hs0 => ?_)
     ·try simp only [decide_eq_true_eq, decide_eq_false_iff_not, Bool.not_eq_true', Bool.not_eq_false', Int.not_lt, Int.not_le, Int.toNat_natCast] at hs0
      first
       | (exfalso; clear hK9 K9; clear hK8 K8; clear hK7 K7; clear hK6 K6; clear hK5 K5; clear hK4 K4; clear hK3 K3; clear hK2 K2; clear hK1 K1; clear hK0 K0; omega)
       | (
        refine RL.st ?_
        refine NV.p T ?_
        refine RL.st ?_
        refine NV.p T ?_
        refine RL.st ?_
        refine NV.sat (fun hs => ?_) (fun c hc => by cases hc)
        refine NV.lv1 T ?_
        refine RL.st ?_
        refine NV.rem rfl rfl rfl (by omega) rfl ?_
        refine RL.st ?_
        refine NV.p T ?_
        refine RL.st ?_
        refine NV.p T ?_
        refine RL.st ?_
        refine NV.p T ?_
        refine RL.split 28 rfl (fun hs1 => ?_) (fun hs1 => ?_)
        ·try simp only [decide_eq_true_eq, decide_eq_false_iff_not, Bool.not_eq_true', Bool.not_eq_false', Int.not_lt, Int.not_le, Int.toNat_natCast] at hs1
         first
          | (exfalso; clear hK9 K9; clear hK8 K8; clear hK7 K7; clear hK6 K6; clear hK5 K5; clear hK4 K4; clear hK3 K3; clear hK2 K2; clear hK1 K1; clear hK0 K0; omega)
          | (
           refine RL.guard_no rfl rfl rfl ?_
           refine RL.guard_no rfl rfl rfl ?_
           refine RL.guard_no rfl rfl rfl ?_
           refine RL.guard_no rfl rfl rfl ?_
           refine RL.guard_no rfl rfl rfl ?_
           refine RL.guard_no rfl rfl rfl ?_
           refine RL.st ?_
           refine NV.p T ?_
           refine RL.nil _ _ _ _ ?_
           refine hK9 _ _ _ ?_
           refine SW.cond_t rfl ?_
           refine SW.region _ _ _ _ ?_
           refine RL.st ?_
           refine NV.p T ?_
           refine RL.st ?_
           refine NV.p T ?_
           refine RL.st ?_
           refine NV.p T ?_
           refine RL.st ?_
           refine NV.p T ?_
           refine RL.st ?_
           first | refine NV.arith rfl rfl rfl rfl (by omega) (by omega) ?_ | refine NV.p T ?_
           refine RL.st ?_
           refine NV.sat (fun hs => ?_) (fun c hc => by cases hc)
           first
             | refine NV.index_array T rfl rfl rfl rfl rfl (by omega) (by omega) ?_
             | refine NV.index_slice T rfl rfl rfl rfl rfl (by first | exact hR | exact hR.cons | exact hR.cons.cons | exact hR.cons.cons.cons | exact Rd.row (At.head _ _) hs) (by omega) (by omega) ?_
           refine RL.st ?_
           refine NV.sat (fun hs => ?_) (fun c hc => by cases hc)
           refine NV.load_elem T rfl rfl rfl rfl (by first | exact hR | exact hR.cons | exact hR.cons.cons | exact hR.cons.cons.cons | exact Rd.row (At.head _ _) hs) (by first | exact map_as (by omega) hlast | exact map_get _ _ (by omega)) ?_
           refine RL.st ?_
           first | refine NV.arith_u8 rfl rfl rfl rfl (by omega) (by omega) ?_ | refine NV.p T ?_
           refine RL.st ?_
           refine NV.build1 T rfl (by conv => lhs; whnf) rfl rfl (by conv => lhs; whnf) (by exact (rfl : _ = some [_])) ?_
           intro b44_2
           refine RL.st ?_
           first
             | refine NV.append1 T rfl rfl rfl rfl rfl rfl rfl rfl rfl rfl (by repeat first | exact At.head _ _ | assumption | exact At.put (by assumption) _ | apply At.tail | apply At.app) (ones rfl) (by first | omega | (unfold maxLen; omega)) (by first | omega | (show (_ + _) * 1 ≤ 140737488355328; omega)) ?_
             | refine NV.append T rfl rfl rfl rfl rfl rfl rfl rfl rfl rfl (by repeat first | exact At.head _ _ | assumption | exact At.put (by assumption) _ | apply At.tail | apply At.app) (by assumption) (ones rfl) (by first | omega | (unfold maxLen; omega)) (by first | omega | (show (_ + _) * 1 ≤ 140737488355328; omega)) ?_
           intro a0_ c0_
           refine RL.st ?_
           refine NV.p T ?_
           refine RL.nil _ _ _ _ ?_
           refine hK8 _ _ _ ?_
           refine SW.region _ _ _ _ ?_
           refine RL.st ?_
           refine NV.p T ?_
           refine RL.st ?_
           refine NV.p T ?_
           refine RL.st ?_
           refine NV.build1 T rfl (by conv => lhs; whnf) rfl rfl (by conv => lhs; whnf) (by exact (rfl : _ = some [_])) ?_
           intro b48_3
           refine RL.st ?_
           first
             | refine NV.append1 T rfl rfl rfl rfl rfl rfl rfl rfl rfl rfl (by repeat first | exact At.head _ _ | assumption | exact At.put (by assumption) _ | apply At.tail | apply At.app) (ones rfl) (by first | omega | (unfold maxLen; omega)) (by first | omega | (show (_ + _) * 1 ≤ 140737488355328; omega)) ?_
             | refine NV.append T rfl rfl rfl rfl rfl rfl rfl rfl rfl rfl (by repeat first | exact At.head _ _ | assumption | exact At.put (by assumption) _ | apply At.tail | apply At.app) (by assumption) (ones rfl) (by first | omega | (unfold maxLen; omega)) (by first | omega | (show (_ + _) * 1 ≤ 140737488355328; omega)) ?_
           intro a1_ c1_
           refine RL.st ?_
           refine NV.p T ?_
           refine RL.nil _ _ _ _ ?_
           refine hK6 _ _ _ ?_
           refine SW.region _ _ _ _ ?_
           refine RL.st ?_
           first | refine NV.arith rfl rfl rfl rfl (by omega) (by omega) ?_ | refine NV.p T ?_
           refine RL.st ?_
           refine NV.p T ?_
           refine RL.nil _ _ _ _ ?_
           first
             | exact ⟨n - (k + 1), (by omega), k + 1, _, _, _, o ++ [1 - last] ++ [es.getD k 0], (by rfl), ⟨by omega, ⟨by simp; omega, hI.due (by omega) e1 hzk hlast2 (by first | exact .inl ⟨by omega, by assumption⟩ | exact .inr ⟨by omega, by assumption⟩)⟩⟩, (.cons rfl (.cons rfl (.nil (by repeat first | exact Mx.refl | exact Mx.mix | refine Mx.put rfl ?_ | refine Mx.upd rfl ?_ | refine Mx.updl rfl ?_ | refine Mx.fin rfl ?_ | refine Mx.inner rfl ?_ | refine Mx.none ?_)))), rfl, (by simp)⟩
             | exact ⟨n - (k + 1), (by omega), k + 1, _, _, _, o ++ [es.getD k 0], (by rfl), ⟨by omega, ⟨by simp; omega, hI.see (by omega) e1 hzk (by rintro (⟨_, h⟩ | ⟨_, h⟩) <;> first | omega | simp_all)⟩⟩, (.cons rfl (.cons rfl (.nil (by repeat first | exact Mx.refl | exact Mx.mix | refine Mx.put rfl ?_ | refine Mx.upd rfl ?_ | refine Mx.updl rfl ?_ | refine Mx.fin rfl ?_ | refine Mx.inner rfl ?_ | refine Mx.none ?_)))), rfl, (by simp)⟩
           )
        ·try simp only [decide_eq_true_eq, decide_eq_false_iff_not, Bool.not_eq_true', Bool.not_eq_false', Int.not_lt, Int.not_le, Int.toNat_natCast] at hs1
         first
          | (exfalso; clear hK9 K9; clear hK8 K8; clear hK7 K7; clear hK6 K6; clear hK5 K5; clear hK4 K4; clear hK3 K3; clear hK2 K2; clear hK1 K1; clear hK0 K0; omega)
          | (
           refine RL.st ?_
           refine NV.p T ?_
           refine RL.st ?_
           refine NV.p T ?_
           refine RL.st ?_
           refine NV.p T ?_
           refine RL.split 31 rfl (fun hs2 => ?_) (fun hs2 => ?_)
           ·try simp only [decide_eq_true_eq, decide_eq_false_iff_not, Bool.not_eq_true', Bool.not_eq_false', Int.not_lt, Int.not_le, Int.toNat_natCast] at hs2
            first
             | (exfalso; clear hK9 K9; clear hK8 K8; clear hK7 K7; clear hK6 K6; clear hK5 K5; clear hK4 K4; clear hK3 K3; clear hK2 K2; clear hK1 K1; clear hK0 K0; omega)
             | (
              refine RL.st ?_
              refine NV.p T ?_
              refine RL.st ?_
              refine NV.sat (fun hs => ?_) (fun c hc => by cases hc)
              refine NV.lv1 T ?_
              refine RL.st ?_
              refine NV.p T ?_
              refine RL.st ?_
              refine NV.p T ?_
              refine RL.nil _ _ _ _ ?_
              refine hK9 _ _ _ ?_
              refine SW.cond rfl (fun hc1 => ?_) (fun hc1 => ?_)
              ·try simp only [decide_eq_true_eq, decide_eq_false_iff_not, Bool.not_eq_true', Bool.not_eq_false', Int.not_lt, Int.not_le, Int.toNat_natCast] at hc1
               first
                | (exfalso; clear hK9 K9; clear hK8 K8; clear hK7 K7; clear hK6 K6; clear hK5 K5; clear hK4 K4; clear hK3 K3; clear hK2 K2; clear hK1 K1; clear hK0 K0; omega)
                | (
                 refine SW.region _ _ _ _ ?_
                 refine RL.st ?_
                 refine NV.p T ?_
                 refine RL.st ?_
                 refine NV.p T ?_
                 refine RL.st ?_
                 refine NV.p T ?_
                 refine RL.st ?_
                 refine NV.p T ?_
                 refine RL.st ?_
                 first | refine NV.arith rfl rfl rfl rfl (by omega) (by omega) ?_ | refine NV.p T ?_
                 refine RL.st ?_
                 refine NV.sat (fun hs => ?_) (fun c hc => by cases hc)
                 first
                   | refine NV.index_array T rfl rfl rfl rfl rfl (by omega) (by omega) ?_
                   | refine NV.index_slice T rfl rfl rfl rfl rfl (by first | exact hR | exact hR.cons | exact hR.cons.cons | exact hR.cons.cons.cons | exact Rd.row (At.head _ _) hs) (by omega) (by omega) ?_
                 refine RL.st ?_
                 refine NV.sat (fun hs => ?_) (fun c hc => by cases hc)
                 refine NV.load_elem T rfl rfl rfl rfl (by first | exact hR | exact hR.cons | exact hR.cons.cons | exact hR.cons.cons.cons | exact Rd.row (At.head _ _) hs) (by first | exact map_as (by omega) hlast | exact map_get _ _ (by omega)) ?_
                 refine RL.st ?_
                 first | refine NV.arith_u8 rfl rfl rfl rfl (by omega) (by omega) ?_ | refine NV.p T ?_
                 refine RL.st ?_
                 refine NV.build1 T rfl (by conv => lhs; whnf) rfl rfl (by conv => lhs; whnf) (by exact (rfl : _ = some [_])) ?_
                 intro b44_4
                 refine RL.st ?_
                 first
                   | refine NV.append1 T rfl rfl rfl rfl rfl rfl rfl rfl rfl rfl (by repeat first | exact At.head _ _ | assumption | exact At.put (by assumption) _ | apply At.tail | apply At.app) (ones rfl) (by first | omega | (unfold maxLen; omega)) (by first | omega | (show (_ + _) * 1 ≤ 140737488355328; omega)) ?_
                   | refine NV.append T rfl rfl rfl rfl rfl rfl rfl rfl rfl rfl (by repeat first | exact At.head _ _ | assumption | exact At.put (by assumption) _ | apply At.tail | apply At.app) (by assumption) (ones rfl) (by first | omega | (unfold maxLen; omega)) (by first | omega | (show (_ + _) * 1 ≤ 140737488355328; omega)) ?_
                 intro a2_ c2_
                 refine RL.st ?_
                 refine NV.p T ?_
                 refine RL.nil _ _ _ _ ?_
                 refine hK8 _ _ _ ?_
                 refine SW.region _ _ _ _ ?_
                 refine RL.st ?_
                 refine NV.p T ?_
                 refine RL.st ?_
                 refine NV.p T ?_
                 refine RL.st ?_
                 refine NV.build1 T rfl (by conv => lhs; whnf) rfl rfl (by conv => lhs; whnf) (by exact (rfl : _ = some [_])) ?_
                 intro b48_5
                 refine RL.st ?_
                 first
                   | refine NV.append1 T rfl rfl rfl rfl rfl rfl rfl rfl rfl rfl (by repeat first | exact At.head _ _ | assumption | exact At.put (by assumption) _ | apply At.tail | apply At.app) (ones rfl) (by first | omega | (unfold maxLen; omega)) (by first | omega | (show (_ + _) * 1 ≤ 140737488355328; omega)) ?_
                   | refine NV.append T rfl rfl rfl rfl rfl rfl rfl rfl rfl rfl (by repeat first | exact At.head _ _ | assumption | exact At.put (by assumption) _ | apply At.tail | apply At.app) (by assumption) (ones rfl) (by first | omega | (unfold maxLen; omega)) (by first | omega | (show (_ + _) * 1 ≤ 140737488355328; omega)) ?_
                 intro a3_ c3_
                 refine RL.st ?_
                 refine NV.p T ?_
                 refine RL.nil _ _ _ _ ?_
                 refine hK6 _ _ _ ?_
                 refine SW.region _ _ _ _ ?_
                 refine RL.st ?_
                 first | refine NV.arith rfl rfl rfl rfl (by omega) (by omega) ?_ | refine NV.p T ?_
                 refine RL.st ?_
                 refine NV.p T ?_
                 refine RL.nil _ _ _ _ ?_
                 first
                   | exact ⟨n - (k + 1), (by omega), k + 1, _, _, _, o ++ [1 - last] ++ [es.getD k 0], (by rfl), ⟨by omega, ⟨by simp; omega, hI.due (by omega) e1 hzk hlast2 (by first | exact .inl ⟨by omega, by assumption⟩ | exact .inr ⟨by omega, by assumption⟩)⟩⟩, (.cons rfl (.cons rfl (.nil (by repeat first | exact Mx.refl | exact Mx.mix | refine Mx.put rfl ?_ | refine Mx.upd rfl ?_ | refine Mx.updl rfl ?_ | refine Mx.fin rfl ?_ | refine Mx.inner rfl ?_ | refine Mx.none ?_)))), rfl, (by simp)⟩
                   | exact ⟨n - (k + 1), (by omega), k + 1, _, _, _, o ++ [es.getD k 0], (by rfl), ⟨by omega, ⟨by simp; omega, hI.see (by omega) e1 hzk (by rintro (⟨_, h⟩ | ⟨_, h⟩) <;> first | omega | simp_all)⟩⟩, (.cons rfl (.cons rfl (.nil (by repeat first | exact Mx.refl | exact Mx.mix | refine Mx.put rfl ?_ | refine Mx.upd rfl ?_ | refine Mx.updl rfl ?_ | refine Mx.fin rfl ?_ | refine Mx.inner rfl ?_ | refine Mx.none ?_)))), rfl, (by simp)⟩
                 )
              ·try simp only [decide_eq_true_eq, decide_eq_false_iff_not, Bool.not_eq_true', Bool.not_eq_false', Int.not_lt, Int.not_le, Int.toNat_natCast] at hc1
               first
                | (exfalso; clear hK9 K9; clear hK8 K8; clear hK7 K7; clear hK6 K6; clear hK5 K5; clear hK4 K4; clear hK3 K3; clear hK2 K2; clear hK1 K1; clear hK0 K0; omega)
                | (
                 refine SW.skip ?_
                 refine hK8 _ _ _ ?_
                 refine SW.region _ _ _ _ ?_
                 refine RL.st ?_
                 refine NV.p T ?_
                 refine RL.st ?_
                 refine NV.p T ?_
                 refine RL.st ?_
                 refine NV.build1 T rfl (by conv => lhs; whnf) rfl rfl (by conv => lhs; whnf) (by exact (rfl : _ = some [_])) ?_
                 intro b48_6
                 refine RL.st ?_
                 first
                   | refine NV.append1 T rfl rfl rfl rfl rfl rfl rfl rfl rfl rfl (by repeat first | exact At.head _ _ | assumption | exact At.put (by assumption) _ | apply At.tail | apply At.app) (ones rfl) (by first | omega | (unfold maxLen; omega)) (by first | omega | (show (_ + _) * 1 ≤ 140737488355328; omega)) ?_
                   | refine NV.append T rfl rfl rfl rfl rfl rfl rfl rfl rfl rfl (by repeat first | exact At.head _ _ | assumption | exact At.put (by assumption) _ | apply At.tail | apply At.app) (by assumption) (ones rfl) (by first | omega | (unfold maxLen; omega)) (by first | omega | (show (_ + _) * 1 ≤ 140737488355328; omega)) ?_
                 intro a4_ c4_
                 refine RL.st ?_
                 refine NV.p T ?_
                 refine RL.nil _ _ _ _ ?_
                 refine hK6 _ _ _ ?_
                 refine SW.region _ _ _ _ ?_
                 refine RL.st ?_
                 first | refine NV.arith rfl rfl rfl rfl (by omega) (by omega) ?_ | refine NV.p T ?_
                 refine RL.st ?_
                 refine NV.p T ?_
                 refine RL.nil _ _ _ _ ?_
                 first
                   | exact ⟨n - (k + 1), (by omega), k + 1, _, _, _, o ++ [1 - last] ++ [es.getD k 0], (by rfl), ⟨by omega, ⟨by simp; omega, hI.due (by omega) e1 hzk hlast2 (by first | exact .inl ⟨by omega, by assumption⟩ | exact .inr ⟨by omega, by assumption⟩)⟩⟩, (.cons rfl (.cons rfl (.nil (by repeat first | exact Mx.refl | exact Mx.mix | refine Mx.put rfl ?_ | refine Mx.upd rfl ?_ | refine Mx.updl rfl ?_ | refine Mx.fin rfl ?_ | refine Mx.inner rfl ?_ | refine Mx.none ?_)))), rfl, (by simp)⟩
                   | exact ⟨n - (k + 1), (by omega), k + 1, _, _, _, o ++ [es.getD k 0], (by rfl), ⟨by omega, ⟨by simp; omega, hI.see (by omega) e1 hzk (by rintro (⟨_, h⟩ | ⟨_, h⟩) <;> first | omega | simp_all)⟩⟩, (.cons rfl (.cons rfl (.nil (by repeat first | exact Mx.refl | exact Mx.mix | refine Mx.put rfl ?_ | refine Mx.upd rfl ?_ | refine Mx.updl rfl ?_ | refine Mx.fin rfl ?_ | refine Mx.inner rfl ?_ | refine Mx.none ?_)))), rfl, (by simp)⟩
                 )
              )
           ·try simp only [decide_eq_true_eq, decide_eq_false_iff_not, Bool.not_eq_true', Bool.not_eq_false', Int.not_lt, Int.not_le, Int.toNat_natCast] at hs2
            first
             | (exfalso; clear hK9 K9; clear hK8 K8; clear hK7 K7; clear hK6 K6; clear hK5 K5; clear hK4 K4; clear hK3 K3; clear hK2 K2; clear hK1 K1; clear hK0 K0; omega)
             | (
              refine RL.guard_no rfl rfl rfl ?_
              refine RL.guard_no rfl rfl rfl ?_
              refine RL.st ?_
              refine NV.p T ?_
              refine RL.st ?_
              refine NV.p T ?_
              refine RL.nil _ _ _ _ ?_
              refine hK9 _ _ _ ?_
              refine SW.cond_f rfl ?_
              refine SW.skip ?_
              refine hK8 _ _ _ ?_
              refine SW.region _ _ _ _ ?_
              refine RL.st ?_
              refine NV.p T ?_
              refine RL.st ?_
              refine NV.p T ?_
              refine RL.st ?_
              refine NV.build1 T rfl (by conv => lhs; whnf) rfl rfl (by conv => lhs; whnf) (by exact (rfl : _ = some [_])) ?_
              intro b48_7
              refine RL.st ?_
              first
                | refine NV.append1 T rfl rfl rfl rfl rfl rfl rfl rfl rfl rfl (by repeat first | exact At.head _ _ | assumption | exact At.put (by assumption) _ | apply At.tail | apply At.app) (ones rfl) (by first | omega | (unfold maxLen; omega)) (by first | omega | (show (_ + _) * 1 ≤ 140737488355328; omega)) ?_
                | refine NV.append T rfl rfl rfl rfl rfl rfl rfl rfl rfl rfl (by repeat first | exact At.head _ _ | assumption | exact At.put (by assumption) _ | apply At.tail | apply At.app) (by assumption) (ones rfl) (by first | omega | (unfold maxLen; omega)) (by first | omega | (show (_ + _) * 1 ≤ 140737488355328; omega)) ?_
              intro a5_ c5_
              refine RL.st ?_
              refine NV.p T ?_
              refine RL.nil _ _ _ _ ?_
              refine hK6 _ _ _ ?_
              refine SW.region _ _ _ _ ?_
              refine RL.st ?_
              first | refine NV.arith rfl rfl rfl rfl (by omega) (by omega) ?_ | refine NV.p T ?_
              refine RL.st ?_
              refine NV.p T ?_
              refine RL.nil _ _ _ _ ?_
              first
                | exact ⟨n - (k + 1), (by omega), k + 1, _, _, _, o ++ [1 - last] ++ [es.getD k 0], (by rfl), ⟨by omega, ⟨by simp; omega, hI.due (by omega) e1 hzk hlast2 (by first | exact .inl ⟨by omega, by assumption⟩ | exact .inr ⟨by omega, by assumption⟩)⟩⟩, (.cons rfl (.cons rfl (.nil (by repeat first | exact Mx.refl | exact Mx.mix | refine Mx.put rfl ?_ | refine Mx.upd rfl ?_ | refine Mx.updl rfl ?_ | refine Mx.fin rfl ?_ | refine Mx.inner rfl ?_ | refine Mx.none ?_)))), rfl, (by simp)⟩
                | exact ⟨n - (k + 1), (by omega), k + 1, _, _, _, o ++ [es.getD k 0], (by rfl), ⟨by omega, ⟨by simp; omega, hI.see (by omega) e1 hzk (by rintro (⟨_, h⟩ | ⟨_, h⟩) <;> first | omega | simp_all)⟩⟩, (.cons rfl (.cons rfl (.nil (by repeat first | exact Mx.refl | exact Mx.mix | refine Mx.put rfl ?_ | refine Mx.upd rfl ?_ | refine Mx.updl rfl ?_ | refine Mx.fin rfl ?_ | refine Mx.inner rfl ?_ | refine Mx.none ?_)))), rfl, (by simp)⟩
              )
           )
        )
     ·try simp only [decide_eq_true_eq, decide_eq_false_iff_not, Bool.not_eq_true', Bool.not_eq_false', Int.not_lt, Int.not_le, Int.toNat_natCast] at hs0
      first
       | (exfalso; clear hK9 K9; clear hK8 K8; clear hK7 K7; clear hK6 K6; clear hK5 K5; clear hK4 K4; clear hK3 K3; clear hK2 K2; clear hK1 K1; clear hK0 K0; omega)
       | (
        refine RL.guard_no rfl rfl rfl ?_
        refine RL.guard_no rfl rfl rfl ?_
        refine RL.guard_no rfl rfl rfl ?_
        refine RL.guard_no rfl rfl rfl ?_
        refine RL.guard_no rfl rfl rfl ?_
        refine RL.st ?_
        refine NV.p T ?_
        refine RL.st ?_
        refine NV.p T ?_
        refine RL.st ?_
        refine NV.p T ?_
        refine RL.st ?_
        refine NV.p T ?_
        refine RL.st ?_
        refine NV.p T ?_
        refine RL.split 31 rfl (fun hs3 => ?_) (fun hs3 => ?_)
        ·try simp only [decide_eq_true_eq, decide_eq_false_iff_not, Bool.not_eq_true', Bool.not_eq_false', Int.not_lt, Int.not_le, Int.toNat_natCast] at hs3
         first
          | (exfalso; clear hK9 K9; clear hK8 K8; clear hK7 K7; clear hK6 K6; clear hK5 K5; clear hK4 K4; clear hK3 K3; clear hK2 K2; clear hK1 K1; clear hK0 K0; omega)
          | (
           refine RL.st ?_
           refine NV.p T ?_
           refine RL.st ?_
           refine NV.sat (fun hs => ?_) (fun c hc => by cases hc)
           refine NV.lv1 T ?_
           refine RL.st ?_
           refine NV.p T ?_
           refine RL.st ?_
           refine NV.p T ?_
           refine RL.nil _ _ _ _ ?_
           refine hK9 _ _ _ ?_
           refine SW.cond rfl (fun hc2 => ?_) (fun hc2 => ?_)
           ·try simp only [decide_eq_true_eq, decide_eq_false_iff_not, Bool.not_eq_true', Bool.not_eq_false', Int.not_lt, Int.not_le, Int.toNat_natCast] at hc2
            first
             | (exfalso; clear hK9 K9; clear hK8 K8; clear hK7 K7; clear hK6 K6; clear hK5 K5; clear hK4 K4; clear hK3 K3; clear hK2 K2; clear hK1 K1; clear hK0 K0; omega)
             | (
              refine SW.region _ _ _ _ ?_
              refine RL.st ?_
              refine NV.p T ?_
              refine RL.st ?_
              refine NV.p T ?_
              refine RL.st ?_
              refine NV.p T ?_
              refine RL.st ?_
              refine NV.p T ?_
              refine RL.st ?_
              first | refine NV.arith rfl rfl rfl rfl (by omega) (by omega) ?_ | refine NV.p T ?_
              refine RL.st ?_
              refine NV.sat (fun hs => ?_) (fun c hc => by cases hc)
              first
                | refine NV.index_array T rfl rfl rfl rfl rfl (by omega) (by omega) ?_
                | refine NV.index_slice T rfl rfl rfl rfl rfl (by first | exact hR | exact hR.cons | exact hR.cons.cons | exact hR.cons.cons.cons | exact Rd.row (At.head _ _) hs) (by omega) (by omega) ?_
              refine RL.st ?_
              refine NV.sat (fun hs => ?_) (fun c hc => by cases hc)
              refine NV.load_elem T rfl rfl rfl rfl (by first | exact hR | exact hR.cons | exact hR.cons.cons | exact hR.cons.cons.cons | exact Rd.row (At.head _ _) hs) (by first | exact map_as (by omega) hlast | exact map_get _ _ (by omega)) ?_
              refine RL.st ?_
              first | refine NV.arith_u8 rfl rfl rfl rfl (by omega) (by omega) ?_ | refine NV.p T ?_
              refine RL.st ?_
              refine NV.build1 T rfl (by conv => lhs; whnf) rfl rfl (by conv => lhs; whnf) (by exact (rfl : _ = some [_])) ?_
              intro b44_8
              refine RL.st ?_
              first
                | refine NV.append1 T rfl rfl rfl rfl rfl rfl rfl rfl rfl rfl (by repeat first | exact At.head _ _ | assumption | exact At.put (by assumption) _ | apply At.tail | apply At.app) (ones rfl) (by first | omega | (unfold maxLen; omega)) (by first | omega | (show (_ + _) * 1 ≤ 140737488355328; omega)) ?_
                | refine NV.append T rfl rfl rfl rfl rfl rfl rfl rfl rfl rfl (by repeat first | exact At.head _ _ | assumption | exact At.put (by assumption) _ | apply At.tail | apply At.app) (by assumption) (ones rfl) (by first | omega | (unfold maxLen; omega)) (by first | omega | (show (_ + _) * 1 ≤ 140737488355328; omega)) ?_
              intro a6_ c6_
              refine RL.st ?_
              refine NV.p T ?_
              refine RL.nil _ _ _ _ ?_
              refine hK8 _ _ _ ?_
              refine SW.region _ _ _ _ ?_
              refine RL.st ?_
              refine NV.p T ?_
              refine RL.st ?_
              refine NV.p T ?_
              refine RL.st ?_
              refine NV.build1 T rfl (by conv => lhs; whnf) rfl rfl (by conv => lhs; whnf) (by exact (rfl : _ = some [_])) ?_
              intro b48_9
              refine RL.st ?_
              first
                | refine NV.append1 T rfl rfl rfl rfl rfl rfl rfl rfl rfl rfl (by repeat first | exact At.head _ _ | assumption | exact At.put (by assumption) _ | apply At.tail | apply At.app) (ones rfl) (by first | omega | (unfold maxLen; omega)) (by first | omega | (show (_ + _) * 1 ≤ 140737488355328; omega)) ?_
                | refine NV.append T rfl rfl rfl rfl rfl rfl rfl rfl rfl rfl (by repeat first | exact At.head _ _ | assumption | exact At.put (by assumption) _ | apply At.tail | apply At.app) (by assumption) (ones rfl) (by first | omega | (unfold maxLen; omega)) (by first | omega | (show (_ + _) * 1 ≤ 140737488355328; omega)) ?_
              intro a7_ c7_
              refine RL.st ?_
              refine NV.p T ?_
              refine RL.nil _ _ _ _ ?_
              refine hK6 _ _ _ ?_
              refine SW.region _ _ _ _ ?_
              refine RL.st ?_
              first | refine NV.arith rfl rfl rfl rfl (by omega) (by omega) ?_ | refine NV.p T ?_
              refine RL.st ?_
              refine NV.p T ?_
              refine RL.nil _ _ _ _ ?_
              first
                | exact ⟨n - (k + 1), (by omega), k + 1, _, _, _, o ++ [1 - last] ++ [es.getD k 0], (by rfl), ⟨by omega, ⟨by simp; omega, hI.due (by omega) e1 hzk hlast2 (by first | exact .inl ⟨by omega, by assumption⟩ | exact .inr ⟨by omega, by assumption⟩)⟩⟩, (.cons rfl (.cons rfl (.nil (by repeat first | exact Mx.refl | exact Mx.mix | refine Mx.put rfl ?_ | refine Mx.upd rfl ?_ | refine Mx.updl rfl ?_ | refine Mx.fin rfl ?_ | refine Mx.inner rfl ?_ | refine Mx.none ?_)))), rfl, (by simp)⟩
                | exact ⟨n - (k + 1), (by omega), k + 1, _, _, _, o ++ [es.getD k 0], (by rfl), ⟨by omega, ⟨by simp; omega, hI.see (by omega) e1 hzk (by rintro (⟨_, h⟩ | ⟨_, h⟩) <;> first | omega | simp_all)⟩⟩, (.cons rfl (.cons rfl (.nil (by repeat first | exact Mx.refl | exact Mx.mix | refine Mx.put rfl ?_ | refine Mx.upd rfl ?_ | refine Mx.updl rfl ?_ | refine Mx.fin rfl ?_ | refine Mx.inner rfl ?_ | refine Mx.none ?_)))), rfl, (by simp)⟩
              )
           ·try simp only [decide_eq_true_eq, decide_eq_false_iff_not, Bool.not_eq_true', Bool.not_eq_false', Int.not_lt, Int.not_le, Int.toNat_natCast] at hc2
            first
             | (exfalso; clear hK9 K9; clear hK8 K8; clear hK7 K7; clear hK6 K6; clear hK5 K5; clear hK4 K4; clear hK3 K3; clear hK2 K2; clear hK1 K1; clear hK0 K0; omega)
             | (
              refine SW.skip ?_
              refine hK8 _ _ _ ?_
              refine SW.region _ _ _ _ ?_
              refine RL.st ?_
              refine NV.p T ?_
              refine RL.st ?_
              refine NV.p T ?_
              refine RL.st ?_
              refine NV.build1 T rfl (by conv => lhs; whnf) rfl rfl (by conv => lhs; whnf) (by exact (rfl : _ = some [_])) ?_
              intro b48_10
              refine RL.st ?_
              first
                | refine NV.append1 T rfl rfl rfl rfl rfl rfl rfl rfl rfl rfl (by repeat first | exact At.head _ _ | assumption | exact At.put (by assumption) _ | apply At.tail | apply At.app) (ones rfl) (by first | omega | (unfold maxLen; omega)) (by first | omega | (show (_ + _) * 1 ≤ 140737488355328; omega)) ?_
                | refine NV.append T rfl rfl rfl rfl rfl rfl rfl rfl rfl rfl (by repeat first | exact At.head _ _ | assumption | exact At.put (by assumption) _ | apply At.tail | apply At.app) (by assumption) (ones rfl) (by first | omega | (unfold maxLen; omega)) (by first | omega | (show (_ + _) * 1 ≤ 140737488355328; omega)) ?_
              intro a8_ c8_
              refine RL.st ?_
              refine NV.p T ?_
              refine RL.nil _ _ _ _ ?_
              refine hK6 _ _ _ ?_
              refine SW.region _ _ _ _ ?_
              refine RL.st ?_
              first | refine NV.arith rfl rfl rfl rfl (by omega) (by omega) ?_ | refine NV.p T ?_
              refine RL.st ?_
              refine NV.p T ?_
              refine RL.nil _ _ _ _ ?_
              first
                | exact ⟨n - (k + 1), (by omega), k + 1, _, _, _, o ++ [1 - last] ++ [es.getD k 0], (by rfl), ⟨by omega, ⟨by simp; omega, hI.due (by omega) e1 hzk hlast2 (by first | exact .inl ⟨by omega, by assumption⟩ | exact .inr ⟨by omega, by assumption⟩)⟩⟩, (.cons rfl (.cons rfl (.nil (by repeat first | exact Mx.refl | exact Mx.mix | refine Mx.put rfl ?_ | refine Mx.upd rfl ?_ | refine Mx.updl rfl ?_ | refine Mx.fin rfl ?_ | refine Mx.inner rfl ?_ | refine Mx.none ?_)))), rfl, (by simp)⟩
                | exact ⟨n - (k + 1), (by omega), k + 1, _, _, _, o ++ [es.getD k 0], (by rfl), ⟨by omega, ⟨by simp; omega, hI.see (by omega) e1 hzk (by rintro (⟨_, h⟩ | ⟨_, h⟩) <;> first | omega | simp_all)⟩⟩, (.cons rfl (.cons rfl (.nil (by repeat first | exact Mx.refl | exact Mx.mix | refine Mx.put rfl ?_ | refine Mx.upd rfl ?_ | refine Mx.updl rfl ?_ | refine Mx.fin rfl ?_ | refine Mx.inner rfl ?_ | refine Mx.none ?_)))), rfl, (by simp)⟩
              )
           )
        ·try simp only [decide_eq_true_eq, decide_eq_false_iff_not, Bool.not_eq_true', Bool.not_eq_false', Int.not_lt, Int.not_le, Int.toNat_natCast] at hs3
         first
          | (exfalso; clear hK9 K9; clear hK8 K8; clear hK7 K7; clear hK6 K6; clear hK5 K5; clear hK4 K4; clear hK3 K3; clear hK2 K2; clear hK1 K1; clear hK0 K0; omega)
          | (
           refine RL.guard_no rfl rfl rfl ?_
           refine RL.guard_no rfl rfl rfl ?_
           refine RL.st ?_
           refine NV.p T ?_
           refine RL.st ?_
           refine NV.p T ?_
           refine RL.nil _ _ _ _ ?_
           refine hK9 _ _ _ ?_
           refine SW.cond_f rfl ?_
           refine SW.skip ?_
           refine hK8 _ _ _ ?_
           refine SW.region _ _ _ _ ?_
           refine RL.st ?_
           refine NV.p T ?_
           refine RL.st ?_
           refine NV.p T ?_
           refine RL.st ?_
           refine NV.build1 T rfl (by conv => lhs; whnf) rfl rfl (by conv => lhs; whnf) (by exact (rfl : _ = some [_])) ?_
           intro b48_11
           refine RL.st ?_
           first
             | refine NV.append1 T rfl rfl rfl rfl rfl rfl rfl rfl rfl rfl (by repeat first | exact At.head _ _ | assumption | exact At.put (by assumption) _ | apply At.tail | apply At.app) (ones rfl) (by first | omega | (unfold maxLen; omega)) (by first | omega | (show (_ + _) * 1 ≤ 140737488355328; omega)) ?_
             | refine NV.append T rfl rfl rfl rfl rfl rfl rfl rfl rfl rfl (by repeat first | exact At.head _ _ | assumption | exact At.put (by assumption) _ | apply At.tail | apply At.app) (by assumption) (ones rfl) (by first | omega | (unfold maxLen; omega)) (by first | omega | (show (_ + _) * 1 ≤ 140737488355328; omega)) ?_
           intro a9_ c9_
           refine RL.st ?_
           refine NV.p T ?_
           refine RL.nil _ _ _ _ ?_
           refine hK6 _ _ _ ?_
           refine SW.region _ _ _ _ ?_
           refine RL.st ?_
           first | refine NV.arith rfl rfl rfl rfl (by omega) (by omega) ?_ | refine NV.p T ?_
           refine RL.st ?_
           refine NV.p T ?_
           refine RL.nil _ _ _ _ ?_
           first
             | exact ⟨n - (k + 1), (by omega), k + 1, _, _, _, o ++ [1 - last] ++ [es.getD k 0], (by rfl), ⟨by omega, ⟨by simp; omega, hI.due (by omega) e1 hzk hlast2 (by first | exact .inl ⟨by omega, by assumption⟩ | exact .inr ⟨by omega, by assumption⟩)⟩⟩, (.cons rfl (.cons rfl (.nil (by repeat first | exact Mx.refl | exact Mx.mix | refine Mx.put rfl ?_ | refine Mx.upd rfl ?_ | refine Mx.updl rfl ?_ | refine Mx.fin rfl ?_ | refine Mx.inner rfl ?_ | refine Mx.none ?_)))), rfl, (by simp)⟩
             | exact ⟨n - (k + 1), (by omega), k + 1, _, _, _, o ++ [es.getD k 0], (by rfl), ⟨by omega, ⟨by simp; omega, hI.see (by omega) e1 hzk (by rintro (⟨_, h⟩ | ⟨_, h⟩) <;> first | omega | simp_all)⟩⟩, (.cons rfl (.cons rfl (.nil (by repeat first | exact Mx.refl | exact Mx.mix | refine Mx.put rfl ?_ | refine Mx.upd rfl ?_ | refine Mx.updl rfl ?_ | refine Mx.fin rfl ?_ | refine Mx.inner rfl ?_ | refine Mx.none ?_)))), rfl, (by simp)⟩
           )
        )
     )
  ·try simp only [decide_eq_true_eq, decide_eq_false_iff_not, Bool.not_eq_true', Bool.not_eq_false', Int.not_lt, Int.not_le, Int.toNat_natCast] at hc0
   first
    | (exfalso; clear hK5 K5; clear hK4 K4; clear hK3 K3; clear hK2 K2; clear hK1 K1; clear hK0 K0; omega)
    | (
     refine SW.exit ?_
     refine hK2 _ _ _ ?_
     refine SW.seq_k ?_
     intro K10 hK10
     refine SW.region _ _ _ _ ?_
     refine RL.st ?_
     refine NV.p T ?_
     refine RL.st ?_
     refine NV.sat (fun hs => ?_) (fun c hc => by cases hc)
     refine NV.slice (l := 1) T rfl rfl rfl rfl ⟨_, rfl⟩ rfl (by omega) ((Rd.row (At.head _ _) hs).cap) ?_
     refine RL.st ?_
     refine NV.p T ?_
     refine RL.nil _ _ _ _ ?_
     refine hK10 _ _ _ ?_
     refine SW.ret ?_
     refine retQ.ret (H' := (.row sr L cr 5 1 (o.map (.int .u8)) :: .var b5_0 24 [.int .i64 ev, .bool ah] :: H)) (RVs.tmp (by conv => lhs; whnf) RVs.nil) (fun w hw => Sat.sub (by repeat first | exact List.Sublist.refl _ | apply List.Sublist.cons_cons | apply List.Sublist.cons | exact List.sublist_append_right _ _ | refine List.Sublist.trans ?_ (List.sublist_append_right _ _)) hw) ?_
     clear hK10 K10 hK5 K5 hK4 K4 hK3 K3 hK2 K2 hK1 K1 hK0 K0
     have hdone := hI.done (by omega)
     refine ⟨_, _, _, rfl, by rw [hL, hdone]; simp, ((Rd.row (At.head _ _) hs).sub (l := 1) (h := L) (by omega) (Nat.le_refl _)).to rfl (by rw [hL, hdone]; simp; exact List.take_of_length_le (by simp)), [_, _], rfl⟩
     )
theorem rsize_ok {w0 : World} {H : List Chunk} (m0 ev : Int) (ah : Bool) (h0 : 0 ≤ m0) (h1 : m0 ≤ 65536) (e1 : 1 ≤ ev) (e2 : ev ≤ 64) : SC Try.prog w0 18 #[.int .i64 m0, .agg #[.int .i64 ev, .bool ah]] H (fun v H' => v = .tuple #[.int .i64 (fsize m0 ev ah), .int .i64 0] ∧ H' = H) := by
 refine SC.enter Try.func18 rfl (Nat.le_of_ble_eq_true rfl) ?_
 refine SW.seq_k ?_
 intro K0 hK0
 refine SW.region _ _ _ _ ?_
 refine RL.st ?_
 refine NV.box rfl (by exact (rfl : _ = [_, _])) ?_
 intro b3_0
 refine RL.st ?_
 refine NV.p T ?_
 refine RL.st ?_
 refine NV.p T ?_
 refine RL.nil _ _ _ _ ?_
 refine hK0 _ _ _ ?_
 refine SW.seq_k ?_
 intro K1 hK1
 refine SW.seq_k ?_
 intro K2 hK2
 refine SW.region _ _ _ _ ?_
 refine RL.st ?_
 refine NV.p T ?_
 refine RL.st ?_
 refine NV.p T ?_
 refine RL.st ?_
 refine NV.p T ?_
 refine RL.split 10 rfl (fun hs0 => ?_) (fun hs0 => ?_)
 ·try simp only [decide_eq_true_eq, decide_eq_false_iff_not, Bool.not_eq_true', Bool.not_eq_false', Int.not_lt, Int.not_le, Int.toNat_natCast] at hs0
  first
   | (exfalso; clear hK2 K2; clear hK1 K1; clear hK0 K0; first | omega | (simp_all; done) | (simp_all; omega))
   | (
    refine RL.guard_no rfl rfl rfl ?_
    refine RL.guard_no rfl rfl rfl ?_
    refine RL.st ?_
    refine NV.p T ?_
    refine RL.st ?_
    refine NV.p T ?_
    refine RL.guard_no rfl rfl rfl ?_
    refine RL.guard_no rfl rfl rfl ?_
    refine RL.guard_no rfl rfl rfl ?_
    refine RL.st ?_
    refine NV.p T ?_
    refine RL.st ?_
    refine NV.p T ?_
    refine RL.guard_no rfl rfl rfl ?_
    refine RL.guard_no rfl rfl rfl ?_
    refine RL.guard_no rfl rfl rfl ?_
    refine RL.st ?_
    refine NV.p T ?_
    refine RL.nil _ _ _ _ ?_
    refine hK2 _ _ _ ?_
    refine SW.cond_t rfl ?_
    refine SW.seq_k ?_
    intro K3 hK3
    refine SW.region _ _ _ _ ?_
    refine RL.st ?_
    refine NV.p T ?_
    refine RL.st ?_
    refine NV.p T ?_
    refine RL.nil _ _ _ _ ?_
    refine hK3 _ _ _ ?_
    refine SW.ret ?_
    refine retQ.ret (H' := H) (RVs.tmp (by conv => lhs; whnf) (RVs.tmp (by conv => lhs; whnf) RVs.nil)) (fun w hw => Sat.sub (by repeat first | exact List.Sublist.refl _ | apply List.Sublist.cons_cons | apply List.Sublist.cons | exact List.sublist_append_right _ _ | refine List.Sublist.trans ?_ (List.sublist_append_right _ _)) hw) ?_
    clear hK3 K3 hK2 K2 hK1 K1 hK0 K0
    refine ⟨?_, rfl⟩
    have hq : q = (m0 - 1) / ev ∨ m0 = 0 := by
      rcases i2 with h | h
      · exact .inl (by rw [iq]; congr 1; omega)
      · by_cases h2 : m0 = 0
        · exact .inr h2
        · exact .inl (by rw [iq]; congr 1; omega)
    unfold fsize
    have ht : 0 < m0 → (m0 - 1).tdiv ev = (m0 - 1) / ev := fun h => Int.tdiv_eq_ediv_of_nonneg (by omega)
    rcases hq with hq | hq
    · by_cases h2 : m0 = 0
      · subst h2; simp_all [resV]; try omega
      · rw [if_neg h2, ht (by omega), ← hq]; simp_all [resV]; try omega
    · subst hq; simp_all [resV]; try omega
    )
 ·try simp only [decide_eq_true_eq, decide_eq_false_iff_not, Bool.not_eq_true', Bool.not_eq_false', Int.not_lt, Int.not_le, Int.toNat_natCast] at hs0
  first
   | (exfalso; clear hK2 K2; clear hK1 K1; clear hK0 K0; first | omega | (simp_all; done) | (simp_all; omega))
   | (
    refine RL.st ?_
    refine NV.p T ?_
    refine RL.st ?_
    refine NV.p T ?_
    refine RL.st ?_
    refine NV.p T ?_
    refine RL.st ?_
    refine NV.p T ?_
    refine RL.split 14 rfl (fun hs1 => ?_) (fun hs1 => ?_)
    ·try simp only [decide_eq_true_eq, decide_eq_false_iff_not, Bool.not_eq_true', Bool.not_eq_false', Int.not_lt, Int.not_le, Int.toNat_natCast] at hs1
     first
      | (exfalso; clear hK2 K2; clear hK1 K1; clear hK0 K0; first | omega | (simp_all; done) | (simp_all; omega))
      | (
       refine RL.guard_no rfl rfl rfl ?_
       refine RL.guard_no rfl rfl rfl ?_
       refine RL.guard_no rfl rfl rfl ?_
       refine RL.st ?_
       refine NV.p T ?_
       refine RL.st ?_
       refine NV.p T ?_
       refine RL.guard_no rfl rfl rfl ?_
       refine RL.guard_no rfl rfl rfl ?_
       refine RL.guard_no rfl rfl rfl ?_
       refine RL.st ?_
       refine NV.p T ?_
       refine RL.nil _ _ _ _ ?_
       refine hK2 _ _ _ ?_
       refine SW.cond_t rfl ?_
       refine SW.seq_k ?_
       intro K4 hK4
       refine SW.region _ _ _ _ ?_
       refine RL.st ?_
       refine NV.p T ?_
       refine RL.st ?_
       refine NV.p T ?_
       refine RL.nil _ _ _ _ ?_
       refine hK4 _ _ _ ?_
       refine SW.ret ?_
       refine retQ.ret (H' := H) (RVs.tmp (by conv => lhs; whnf) (RVs.tmp (by conv => lhs; whnf) RVs.nil)) (fun w hw => Sat.sub (by repeat first | exact List.Sublist.refl _ | apply List.Sublist.cons_cons | apply List.Sublist.cons | exact List.sublist_append_right _ _ | refine List.Sublist.trans ?_ (List.sublist_append_right _ _)) hw) ?_
       clear hK4 K4 hK2 K2 hK1 K1 hK0 K0
       refine ⟨?_, rfl⟩
       have hq : q = (m0 - 1) / ev ∨ m0 = 0 := by
         rcases i2 with h | h
         · exact .inl (by rw [iq]; congr 1; omega)
         · by_cases h2 : m0 = 0
           · exact .inr h2
           · exact .inl (by rw [iq]; congr 1; omega)
       unfold fsize
       have ht : 0 < m0 → (m0 - 1).tdiv ev = (m0 - 1) / ev := fun h => Int.tdiv_eq_ediv_of_nonneg (by omega)
       rcases hq with hq | hq
       · by_cases h2 : m0 = 0
         · subst h2; simp_all [resV]; try omega
         · rw [if_neg h2, ht (by omega), ← hq]; simp_all [resV]; try omega
       · subst hq; simp_all [resV]; try omega
       )
    ·try simp only [decide_eq_true_eq, decide_eq_false_iff_not, Bool.not_eq_true', Bool.not_eq_false', Int.not_lt, Int.not_le, Int.toNat_natCast] at hs1
     first
      | (exfalso; clear hK2 K2; clear hK1 K1; clear hK0 K0; first | omega | (simp_all; done) | (simp_all; omega))
      | (
       refine RL.st ?_
       refine NV.p T ?_
       refine RL.st ?_
       refine NV.lv1 T ?_
       refine RL.st ?_
       refine NV.p T ?_
       refine RL.st ?_
       refine NV.p T ?_
       refine RL.st ?_
       refine NV.p T ?_
       refine RL.split 19 rfl (fun hs2 => ?_) (fun hs2 => ?_)
       ·try simp only [decide_eq_true_eq, decide_eq_false_iff_not, Bool.not_eq_true', Bool.not_eq_false', Int.not_lt, Int.not_le, Int.toNat_natCast] at hs2
        first
         | (exfalso; clear hK2 K2; clear hK1 K1; clear hK0 K0; first | omega | (simp_all; done) | (simp_all; omega))
         | (
          refine RL.guard_no rfl rfl rfl ?_
          refine RL.guard_no rfl rfl rfl ?_
          refine RL.guard_no rfl rfl rfl ?_
          refine RL.st ?_
          refine NV.p T ?_
          refine RL.nil _ _ _ _ ?_
          refine hK2 _ _ _ ?_
          refine SW.cond_t rfl ?_
          refine SW.seq_k ?_
          intro K5 hK5
          refine SW.region _ _ _ _ ?_
          refine RL.st ?_
          refine NV.p T ?_
          refine RL.st ?_
          refine NV.p T ?_
          refine RL.nil _ _ _ _ ?_
          refine hK5 _ _ _ ?_
          refine SW.ret ?_
          refine retQ.ret (H' := H) (RVs.tmp (by conv => lhs; whnf) (RVs.tmp (by conv => lhs; whnf) RVs.nil)) (fun w hw => Sat.sub (by repeat first | exact List.Sublist.refl _ | apply List.Sublist.cons_cons | apply List.Sublist.cons | exact List.sublist_append_right _ _ | refine List.Sublist.trans ?_ (List.sublist_append_right _ _)) hw) ?_
          clear hK5 K5 hK2 K2 hK1 K1 hK0 K0
          refine ⟨?_, rfl⟩
          have hq : q = (m0 - 1) / ev ∨ m0 = 0 := by
            rcases i2 with h | h
            · exact .inl (by rw [iq]; congr 1; omega)
            · by_cases h2 : m0 = 0
              · exact .inr h2
              · exact .inl (by rw [iq]; congr 1; omega)
          unfold fsize
          have ht : 0 < m0 → (m0 - 1).tdiv ev = (m0 - 1) / ev := fun h => Int.tdiv_eq_ediv_of_nonneg (by omega)
          rcases hq with hq | hq
          · by_cases h2 : m0 = 0
            · subst h2; simp_all [resV]; try omega
            · rw [if_neg h2, ht (by omega), ← hq]; simp_all [resV]; try omega
          · subst hq; simp_all [resV]; try omega
          )
       ·try simp only [decide_eq_true_eq, decide_eq_false_iff_not, Bool.not_eq_true', Bool.not_eq_false', Int.not_lt, Int.not_le, Int.toNat_natCast] at hs2
        first
         | (exfalso; clear hK2 K2; clear hK1 K1; clear hK0 K0; first | omega | (simp_all; done) | (simp_all; omega))
         | (
          refine RL.st ?_
          refine NV.p T ?_
          refine RL.st ?_
          refine NV.lv1 T ?_
          refine RL.st ?_
          refine NV.p T ?_
          refine RL.st ?_
          refine NV.p T ?_
          refine RL.nil _ _ _ _ ?_
          refine hK2 _ _ _ ?_
          refine SW.cond rfl (fun hc0 => ?_) (fun hc0 => ?_)
          ·try simp only [decide_eq_true_eq, decide_eq_false_iff_not, Bool.not_eq_true', Bool.not_eq_false', Int.not_lt, Int.not_le, Int.toNat_natCast] at hc0
           first
            | (exfalso; clear hK2 K2; clear hK1 K1; clear hK0 K0; first | omega | (simp_all; done) | (simp_all; omega))
            | (
             refine SW.seq_k ?_
             intro K6 hK6
             refine SW.region _ _ _ _ ?_
             refine RL.st ?_
             refine NV.p T ?_
             refine RL.st ?_
             refine NV.p T ?_
             refine RL.nil _ _ _ _ ?_
             refine hK6 _ _ _ ?_
             refine SW.ret ?_
             refine retQ.ret (H' := H) (RVs.tmp (by conv => lhs; whnf) (RVs.tmp (by conv => lhs; whnf) RVs.nil)) (fun w hw => Sat.sub (by repeat first | exact List.Sublist.refl _ | apply List.Sublist.cons_cons | apply List.Sublist.cons | exact List.sublist_append_right _ _ | refine List.Sublist.trans ?_ (List.sublist_append_right _ _)) hw) ?_
             clear hK6 K6 hK2 K2 hK1 K1 hK0 K0
             refine ⟨?_, rfl⟩
             have hq : q = (m0 - 1) / ev ∨ m0 = 0 := by
               rcases i2 with h | h
               · exact .inl (by rw [iq]; congr 1; omega)
               · by_cases h2 : m0 = 0
                 · exact .inr h2
                 · exact .inl (by rw [iq]; congr 1; omega)
             unfold fsize
             have ht : 0 < m0 → (m0 - 1).tdiv ev = (m0 - 1) / ev := fun h => Int.tdiv_eq_ediv_of_nonneg (by omega)
             rcases hq with hq | hq
             · by_cases h2 : m0 = 0
               · subst h2; simp_all [resV]; try omega
               · rw [if_neg h2, ht (by omega), ← hq]; simp_all [resV]; try omega
             · subst hq; simp_all [resV]; try omega
             )
          ·try simp only [decide_eq_true_eq, decide_eq_false_iff_not, Bool.not_eq_true', Bool.not_eq_false', Int.not_lt, Int.not_le, Int.toNat_natCast] at hc0
           first
            | (exfalso; clear hK2 K2; clear hK1 K1; clear hK0 K0; first | omega | (simp_all; done) | (simp_all; omega))
            | (
             refine SW.skip ?_
             refine hK1 _ _ _ ?_
             refine SW.seq_k ?_
             intro K7 hK7
             refine SW.region _ _ _ _ ?_
             refine RL.st ?_
             refine NV.p T ?_
             refine RL.st ?_
             refine NV.p T ?_
             refine RL.nil _ _ _ _ ?_
             refine hK7 _ _ _ ?_
             refine SW.seq_k ?_
             intro K8 hK8
             refine SW.seq_k ?_
             intro K9 hK9
             refine SW.region _ _ _ _ ?_
             refine RL.st ?_
             refine NV.p T ?_
             refine RL.nil _ _ _ _ ?_
             refine hK9 _ _ _ ?_
             refine SW.block ?_
             refine SW.loopM (fun frB mm fr ds HH => ∃ (i q : Int), mm = (m0 + 1 - i).toNat ∧ (1 ≤ i ∧ (i ≤ m0 ∨ i = 1) ∧ q = (i - 1) / ev ∧ 0 ≤ q ∧ q ≤ i - 1) ∧ FrIs [6, 7, 25, 26, 27, 28, 29, 30, 31, 32, 33, 34, 35, 36] frB fr [(6, .int .i64 (m0 + q)), (7, .int .i64 i)] ∧ ds = [] ∧ HH = (.var b3_0 24 [.int .i64 ev, .bool ah] :: H)) (n := (m0 + 1 - 1).toNat) ?_ ?_
             ·exact ⟨1, 0, rfl, ⟨by omega, by omega, by simp, by omega, by omega⟩, (.consI rfl (by omega) (.consI rfl (by omega) (.nil (by repeat first | exact Mx.refl | exact Mx.mix | refine Mx.put rfl ?_ | refine Mx.upd rfl ?_ | refine Mx.updl rfl ?_ | refine Mx.fin rfl ?_ | refine Mx.inner rfl ?_ | refine Mx.none ?_)))), rfl, rfl⟩
             ·rintro mm fr ds HH ⟨i, q, rfl, ⟨i1, i2, iq, q0, q1⟩, hFr, rfl, eHH⟩
              obtain rfl := eHH.symm
              obtain ⟨frU, rfl⟩ := hFr.eq
              clear hFr
              have hdv := div_step e1 i1
              refine SW.seq_k ?_
              intro K10 hK10
              refine SW.seq_k ?_
              intro K11 hK11
              refine SW.region _ _ _ _ ?_
              refine RL.st ?_
              refine NV.p T ?_
              refine RL.st ?_
              refine NV.p T ?_
              refine RL.st ?_
              refine NV.p T ?_
              refine RL.nil _ _ _ _ ?_
              refine hK11 _ _ _ ?_
              refine SW.cond rfl (fun hc1 => ?_) (fun hc1 => ?_)
              ·try simp only [decide_eq_true_eq, decide_eq_false_iff_not, Bool.not_eq_true', Bool.not_eq_false', Int.not_lt, Int.not_le, Int.toNat_natCast] at hc1
               first
                | (exfalso; clear hK11 K11; clear hK10 K10; clear hK9 K9; clear hK8 K8; clear hK7 K7; clear hK2 K2; clear hK1 K1; clear hK0 K0; first | omega | (simp_all; done) | (simp_all; omega))
                | (
                 refine SW.skip ?_
                 refine hK10 _ _ _ ?_
                 refine SW.seq_k ?_
                 intro K12 hK12
                 refine SW.block ?_
                 refine SW.seq_k ?_
                 intro K13 hK13
                 refine SW.region _ _ _ _ ?_
                 refine RL.st ?_
                 refine NV.p T ?_
                 refine RL.st ?_
                 refine NV.p T ?_
                 refine RL.st ?_
                 refine NV.lv1 T ?_
                 refine RL.st ?_
                 refine NV.rem rfl rfl rfl (by omega) rfl ?_
                 refine RL.st ?_
                 refine NV.p T ?_
                 refine RL.nil _ _ _ _ ?_
                 refine hK13 _ _ _ ?_
                 refine SW.cond rfl (fun hc2 => ?_) (fun hc2 => ?_)
                 ·try simp only [decide_eq_true_eq, decide_eq_false_iff_not, Bool.not_eq_true', Bool.not_eq_false', Int.not_lt, Int.not_le, Int.toNat_natCast] at hc2
                  first
                   | (exfalso; clear hK13 K13; clear hK12 K12; clear hK11 K11; clear hK10 K10; clear hK9 K9; clear hK8 K8; clear hK7 K7; clear hK2 K2; clear hK1 K1; clear hK0 K0; first | omega | (simp_all; done) | (simp_all; omega))
                   | (
                    refine SW.region _ _ _ _ ?_
                    refine RL.st ?_
                    refine NV.p T ?_
                    refine RL.st ?_
                    first | refine NV.arith rfl rfl rfl rfl (by omega) (by omega) ?_ | refine NV.p T ?_
                    refine RL.st ?_
                    refine NV.p T ?_
                    refine RL.nil _ _ _ _ ?_
                    refine hK12 _ _ _ ?_
                    refine SW.region _ _ _ _ ?_
                    refine RL.st ?_
                    refine NV.p T ?_
                    refine RL.st ?_
                    first | refine NV.arith rfl rfl rfl rfl (by omega) (by omega) ?_ | refine NV.p T ?_
                    refine RL.st ?_
                    refine NV.p T ?_
                    refine RL.nil _ _ _ _ ?_
                    first
                      | exact ⟨(m0 + 1 - (i + 1)).toNat, (by omega), i + 1, q + 1, (by rfl), ⟨by omega, by omega, by rw [Int.add_sub_cancel, hdv.1 (by assumption), iq], by omega, by omega⟩, (.consI rfl (by omega) (.consI rfl (by omega) (.nil (by repeat first | exact Mx.refl | exact Mx.mix | refine Mx.put rfl ?_ | refine Mx.upd rfl ?_ | refine Mx.updl rfl ?_ | refine Mx.fin rfl ?_ | refine Mx.inner rfl ?_ | refine Mx.none ?_)))), rfl, rfl⟩
                      | exact ⟨(m0 + 1 - (i + 1)).toNat, (by omega), i + 1, q, (by rfl), ⟨by omega, by omega, by rw [Int.add_sub_cancel, hdv.2 (by assumption), iq], by omega, by omega⟩, (.consI rfl (by omega) (.consI rfl (by omega) (.nil (by repeat first | exact Mx.refl | exact Mx.mix | refine Mx.put rfl ?_ | refine Mx.upd rfl ?_ | refine Mx.updl rfl ?_ | refine Mx.fin rfl ?_ | refine Mx.inner rfl ?_ | refine Mx.none ?_)))), rfl, rfl⟩
                    )
                 ·try simp only [decide_eq_true_eq, decide_eq_false_iff_not, Bool.not_eq_true', Bool.not_eq_false', Int.not_lt, Int.not_le, Int.toNat_natCast] at hc2
                  first
                   | (exfalso; clear hK13 K13; clear hK12 K12; clear hK11 K11; clear hK10 K10; clear hK9 K9; clear hK8 K8; clear hK7 K7; clear hK2 K2; clear hK1 K1; clear hK0 K0; first | omega | (simp_all; done) | (simp_all; omega))
                   | (
                    refine SW.skip ?_
                    refine hK12 _ _ _ ?_
                    refine SW.region _ _ _ _ ?_
                    refine RL.st ?_
                    refine NV.p T ?_
                    refine RL.st ?_
                    first | refine NV.arith rfl rfl rfl rfl (by omega) (by omega) ?_ | refine NV.p T ?_
                    refine RL.st ?_
                    refine NV.p T ?_
                    refine RL.nil _ _ _ _ ?_
                    first
                      | exact ⟨(m0 + 1 - (i + 1)).toNat, (by omega), i + 1, q + 1, (by rfl), ⟨by omega, by omega, by rw [Int.add_sub_cancel, hdv.1 (by assumption), iq], by omega, by omega⟩, (.consI rfl (by omega) (.consI rfl (by omega) (.nil (by repeat first | exact Mx.refl | exact Mx.mix | refine Mx.put rfl ?_ | refine Mx.upd rfl ?_ | refine Mx.updl rfl ?_ | refine Mx.fin rfl ?_ | refine Mx.inner rfl ?_ | refine Mx.none ?_)))), rfl, rfl⟩
                      | exact ⟨(m0 + 1 - (i + 1)).toNat, (by omega), i + 1, q, (by rfl), ⟨by omega, by omega, by rw [Int.add_sub_cancel, hdv.2 (by assumption), iq], by omega, by omega⟩, (.consI rfl (by omega) (.consI rfl (by omega) (.nil (by repeat first | exact Mx.refl | exact Mx.mix | refine Mx.put rfl ?_ | refine Mx.upd rfl ?_ | refine Mx.updl rfl ?_ | refine Mx.fin rfl ?_ | refine Mx.inner rfl ?_ | refine Mx.none ?_)))), rfl, rfl⟩
                    )
                 )
              ·try simp only [decide_eq_true_eq, decide_eq_false_iff_not, Bool.not_eq_true', Bool.not_eq_false', Int.not_lt, Int.not_le, Int.toNat_natCast] at hc1
               first
                | (exfalso; clear hK11 K11; clear hK10 K10; clear hK9 K9; clear hK8 K8; clear hK7 K7; clear hK2 K2; clear hK1 K1; clear hK0 K0; first | omega | (simp_all; done) | (simp_all; omega))
                | (
                 refine SW.exit ?_
                 refine hK8 _ _ _ ?_
                 refine SW.seq_k ?_
                 intro K14 hK14
                 refine SW.seq_k ?_
                 intro K15 hK15
                 refine SW.region _ _ _ _ ?_
                 refine RL.st ?_
                 refine NV.p T ?_
                 refine RL.st ?_
                 refine NV.lv1 T ?_
                 refine RL.st ?_
                 refine NV.p T ?_
                 refine RL.split 39 rfl (fun hs3 => ?_) (fun hs3 => ?_)
                 ·try simp only [decide_eq_true_eq, decide_eq_false_iff_not, Bool.not_eq_true', Bool.not_eq_false', Int.not_lt, Int.not_le, Int.toNat_natCast] at hs3
                  first
                   | (exfalso; clear hK15 K15; clear hK14 K14; clear hK11 K11; clear hK10 K10; clear hK9 K9; clear hK8 K8; clear hK7 K7; clear hK2 K2; clear hK1 K1; clear hK0 K0; first | omega | (simp_all; done) | (simp_all; omega))
                   | (
                    refine RL.st ?_
                    refine NV.p T ?_
                    refine RL.st ?_
                    refine NV.p T ?_
                    refine RL.st ?_
                    refine NV.p T ?_
                    refine RL.nil _ _ _ _ ?_
                    refine hK15 _ _ _ ?_
                    refine SW.cond rfl (fun hc3 => ?_) (fun hc3 => ?_)
                    ·try simp only [decide_eq_true_eq, decide_eq_false_iff_not, Bool.not_eq_true', Bool.not_eq_false', Int.not_lt, Int.not_le, Int.toNat_natCast] at hc3
                     first
                      | (exfalso; clear hK15 K15; clear hK14 K14; clear hK11 K11; clear hK10 K10; clear hK9 K9; clear hK8 K8; clear hK7 K7; clear hK2 K2; clear hK1 K1; clear hK0 K0; first | omega | (simp_all; done) | (simp_all; omega))
                      | (
                       refine SW.region _ _ _ _ ?_
                       refine RL.st ?_
                       refine NV.p T ?_
                       refine RL.st ?_
                       first | refine NV.arith rfl rfl rfl rfl (by omega) (by omega) ?_ | refine NV.p T ?_
                       refine RL.st ?_
                       refine NV.p T ?_
                       refine RL.nil _ _ _ _ ?_
                       refine hK14 _ _ _ ?_
                       refine SW.seq_k ?_
                       intro K16 hK16
                       refine SW.region _ _ _ _ ?_
                       refine RL.st ?_
                       refine NV.p T ?_
                       refine RL.st ?_
                       refine NV.p T ?_
                       refine RL.st ?_
                       refine NV.p T ?_
                       refine RL.nil _ _ _ _ ?_
                       refine hK16 _ _ _ ?_
                       refine SW.ret ?_
                       refine retQ.ret (H' := H) (RVs.tmp (by conv => lhs; whnf) (RVs.tmp (by conv => lhs; whnf) RVs.nil)) (fun w hw => Sat.sub (by repeat first | exact List.Sublist.refl _ | apply List.Sublist.cons_cons | apply List.Sublist.cons | exact List.sublist_append_right _ _ | refine List.Sublist.trans ?_ (List.sublist_append_right _ _)) hw) ?_
                       clear hK16 K16 hK15 K15 hK14 K14 hK11 K11 hK10 K10 hK9 K9 hK8 K8 hK7 K7 hK2 K2 hK1 K1 hK0 K0
                       refine ⟨?_, rfl⟩
                       have hq : q = (m0 - 1) / ev ∨ m0 = 0 := by
                         rcases i2 with h | h
                         · exact .inl (by rw [iq]; congr 1; omega)
                         · by_cases h2 : m0 = 0
                           · exact .inr h2
                           · exact .inl (by rw [iq]; congr 1; omega)
                       unfold fsize
                       have ht : 0 < m0 → (m0 - 1).tdiv ev = (m0 - 1) / ev := fun h => Int.tdiv_eq_ediv_of_nonneg (by omega)
                       rcases hq with hq | hq
                       · by_cases h2 : m0 = 0
                         · subst h2; simp_all [resV]; try omega
                         · rw [if_neg h2, ht (by omega), ← hq]; simp_all [resV]; try omega
                       · subst hq; simp_all [resV]; try omega
                       )
                    ·try simp only [decide_eq_true_eq, decide_eq_false_iff_not, Bool.not_eq_true', Bool.not_eq_false', Int.not_lt, Int.not_le, Int.toNat_natCast] at hc3
                     first
                      | (exfalso; clear hK15 K15; clear hK14 K14; clear hK11 K11; clear hK10 K10; clear hK9 K9; clear hK8 K8; clear hK7 K7; clear hK2 K2; clear hK1 K1; clear hK0 K0; first | omega | (simp_all; done) | (simp_all; omega))
                      | (
                       refine SW.skip ?_
                       refine hK14 _ _ _ ?_
                       refine SW.seq_k ?_
                       intro K17 hK17
                       refine SW.region _ _ _ _ ?_
                       refine RL.st ?_
                       refine NV.p T ?_
                       refine RL.st ?_
                       refine NV.p T ?_
                       refine RL.st ?_
                       refine NV.p T ?_
                       refine RL.nil _ _ _ _ ?_
                       refine hK17 _ _ _ ?_
                       refine SW.ret ?_
                       refine retQ.ret (H' := H) (RVs.tmp (by conv => lhs; whnf) (RVs.tmp (by conv => lhs; whnf) RVs.nil)) (fun w hw => Sat.sub (by repeat first | exact List.Sublist.refl _ | apply List.Sublist.cons_cons | apply List.Sublist.cons | exact List.sublist_append_right _ _ | refine List.Sublist.trans ?_ (List.sublist_append_right _ _)) hw) ?_
                       clear hK17 K17 hK15 K15 hK14 K14 hK11 K11 hK10 K10 hK9 K9 hK8 K8 hK7 K7 hK2 K2 hK1 K1 hK0 K0
                       refine ⟨?_, rfl⟩
                       have hq : q = (m0 - 1) / ev ∨ m0 = 0 := by
                         rcases i2 with h | h
                         · exact .inl (by rw [iq]; congr 1; omega)
                         · by_cases h2 : m0 = 0
                           · exact .inr h2
                           · exact .inl (by rw [iq]; congr 1; omega)
                       unfold fsize
                       have ht : 0 < m0 → (m0 - 1).tdiv ev = (m0 - 1) / ev := fun h => Int.tdiv_eq_ediv_of_nonneg (by omega)
                       rcases hq with hq | hq
                       · by_cases h2 : m0 = 0
                         · subst h2; simp_all [resV]; try omega
                         · rw [if_neg h2, ht (by omega), ← hq]; simp_all [resV]; try omega
                       · subst hq; simp_all [resV]; try omega
                       )
                    )
                 ·try simp only [decide_eq_true_eq, decide_eq_false_iff_not, Bool.not_eq_true', Bool.not_eq_false', Int.not_lt, Int.not_le, Int.toNat_natCast] at hs3
                  first
                   | (exfalso; clear hK15 K15; clear hK14 K14; clear hK11 K11; clear hK10 K10; clear hK9 K9; clear hK8 K8; clear hK7 K7; clear hK2 K2; clear hK1 K1; clear hK0 K0; first | omega | (simp_all; done) | (simp_all; omega))
                   | (
                    refine RL.guard_no rfl rfl rfl ?_
                    refine RL.guard_no rfl rfl rfl ?_
                    refine RL.st ?_
                    refine NV.p T ?_
                    refine RL.nil _ _ _ _ ?_
                    refine hK15 _ _ _ ?_
                    refine SW.cond_f rfl ?_
                    refine SW.skip ?_
                    refine hK14 _ _ _ ?_
                    refine SW.seq_k ?_
                    intro K18 hK18
                    refine SW.region _ _ _ _ ?_
                    refine RL.st ?_
                    refine NV.p T ?_
                    refine RL.st ?_
                    refine NV.p T ?_
                    refine RL.st ?_
                    refine NV.p T ?_
                    refine RL.nil _ _ _ _ ?_
                    refine hK18 _ _ _ ?_
                    refine SW.ret ?_
                    refine retQ.ret (H' := H) (RVs.tmp (by conv => lhs; whnf) (RVs.tmp (by conv => lhs; whnf) RVs.nil)) (fun w hw => Sat.sub (by repeat first | exact List.Sublist.refl _ | apply List.Sublist.cons_cons | apply List.Sublist.cons | exact List.sublist_append_right _ _ | refine List.Sublist.trans ?_ (List.sublist_append_right _ _)) hw) ?_
                    clear hK18 K18 hK15 K15 hK14 K14 hK11 K11 hK10 K10 hK9 K9 hK8 K8 hK7 K7 hK2 K2 hK1 K1 hK0 K0
                    refine ⟨?_, rfl⟩
                    have hq : q = (m0 - 1) / ev ∨ m0 = 0 := by
                      rcases i2 with h | h
                      · exact .inl (by rw [iq]; congr 1; omega)
                      · by_cases h2 : m0 = 0
                        · exact .inr h2
                        · exact .inl (by rw [iq]; congr 1; omega)
                    unfold fsize
                    have ht : 0 < m0 → (m0 - 1).tdiv ev = (m0 - 1) / ev := fun h => Int.tdiv_eq_ediv_of_nonneg (by omega)
                    rcases hq with hq | hq
                    · by_cases h2 : m0 = 0
                      · subst h2; simp_all [resV]; try omega
                      · rw [if_neg h2, ht (by omega), ← hq]; simp_all [resV]; try omega
                    · subst hq; simp_all [resV]; try omega
                    )
                 )
             )
          )
       )
    )
theorem rsize_bad {w0 : World} {H : List Chunk} (m0 ev : Int) (ah : Bool) (h : ¬ ((0 ≤ m0 ∧ m0 ≤ 65536) ∧ 1 ≤ ev ∧ ev ≤ 64)) : SC Try.prog w0 18 #[.int .i64 m0, .agg #[.int .i64 ev, .bool ah]] H (fun v H' => v = .tuple #[.int .i64 0, .int .i64 2] ∧ H' = H) := by
 refine SC.enter Try.func18 rfl (Nat.le_of_ble_eq_true rfl) ?_
 refine SW.seq_k ?_
 intro K0 hK0
 refine SW.region _ _ _ _ ?_
 refine RL.st ?_
 refine NV.box rfl (by exact (rfl : _ = [_, _])) ?_
 intro b3_0
 refine RL.st ?_
 refine NV.p T ?_
 refine RL.st ?_
 refine NV.p T ?_
 refine RL.nil _ _ _ _ ?_
 refine hK0 _ _ _ ?_
 refine SW.seq_k ?_
 intro K1 hK1
 refine SW.seq_k ?_
 intro K2 hK2
 refine SW.region _ _ _ _ ?_
 refine RL.st ?_
 refine NV.p T ?_
 refine RL.st ?_
 refine NV.p T ?_
 refine RL.st ?_
 refine NV.p T ?_
 refine RL.split 10 rfl (fun hs0 => ?_) (fun hs0 => ?_)
 ·try simp only [decide_eq_true_eq, decide_eq_false_iff_not, Bool.not_eq_true', Bool.not_eq_false', Int.not_lt, Int.not_le, Int.toNat_natCast] at hs0
  first
   | (exfalso; clear hK2 K2; clear hK1 K1; clear hK0 K0; first | omega | (simp_all; done) | (simp_all; omega))
   | (
    refine RL.guard_no rfl rfl rfl ?_
    refine RL.guard_no rfl rfl rfl ?_
    refine RL.st ?_
    refine NV.p T ?_
    refine RL.st ?_
    refine NV.p T ?_
    refine RL.guard_no rfl rfl rfl ?_
    refine RL.guard_no rfl rfl rfl ?_
    refine RL.guard_no rfl rfl rfl ?_
    refine RL.st ?_
    refine NV.p T ?_
    refine RL.st ?_
    refine NV.p T ?_
    refine RL.guard_no rfl rfl rfl ?_
    refine RL.guard_no rfl rfl rfl ?_
    refine RL.guard_no rfl rfl rfl ?_
    refine RL.st ?_
    refine NV.p T ?_
    refine RL.nil _ _ _ _ ?_
    refine hK2 _ _ _ ?_
    refine SW.cond_t rfl ?_
    refine SW.seq_k ?_
    intro K3 hK3
    refine SW.region _ _ _ _ ?_
    refine RL.st ?_
    refine NV.p T ?_
    refine RL.st ?_
    refine NV.p T ?_
    refine RL.nil _ _ _ _ ?_
    refine hK3 _ _ _ ?_
    refine SW.ret ?_
    refine retQ.ret (H' := H) (RVs.tmp (by conv => lhs; whnf) (RVs.tmp (by conv => lhs; whnf) RVs.nil)) (fun w hw => Sat.sub (by repeat first | exact List.Sublist.refl _ | apply List.Sublist.cons_cons | apply List.Sublist.cons | exact List.sublist_append_right _ _ | refine List.Sublist.trans ?_ (List.sublist_append_right _ _)) hw) ?_
    clear hK3 K3 hK2 K2 hK1 K1 hK0 K0
    exact ⟨rfl, rfl⟩
    )
 ·try simp only [decide_eq_true_eq, decide_eq_false_iff_not, Bool.not_eq_true', Bool.not_eq_false', Int.not_lt, Int.not_le, Int.toNat_natCast] at hs0
  first
   | (exfalso; clear hK2 K2; clear hK1 K1; clear hK0 K0; first | omega | (simp_all; done) | (simp_all; omega))
   | (
    refine RL.st ?_
    refine NV.p T ?_
    refine RL.st ?_
    refine NV.p T ?_
    refine RL.st ?_
    refine NV.p T ?_
    refine RL.st ?_
    refine NV.p T ?_
    refine RL.split 14 rfl (fun hs1 => ?_) (fun hs1 => ?_)
    ·try simp only [decide_eq_true_eq, decide_eq_false_iff_not, Bool.not_eq_true', Bool.not_eq_false', Int.not_lt, Int.not_le, Int.toNat_natCast] at hs1
     first
      | (exfalso; clear hK2 K2; clear hK1 K1; clear hK0 K0; first | omega | (simp_all; done) | (simp_all; omega))
      | (
       refine RL.guard_no rfl rfl rfl ?_
       refine RL.guard_no rfl rfl rfl ?_
       refine RL.guard_no rfl rfl rfl ?_
       refine RL.st ?_
       refine NV.p T ?_
       refine RL.st ?_
       refine NV.p T ?_
       refine RL.guard_no rfl rfl rfl ?_
       refine RL.guard_no rfl rfl rfl ?_
       refine RL.guard_no rfl rfl rfl ?_
       refine RL.st ?_
       refine NV.p T ?_
       refine RL.nil _ _ _ _ ?_
       refine hK2 _ _ _ ?_
       refine SW.cond_t rfl ?_
       refine SW.seq_k ?_
       intro K4 hK4
       refine SW.region _ _ _ _ ?_
       refine RL.st ?_
       refine NV.p T ?_
       refine RL.st ?_
       refine NV.p T ?_
       refine RL.nil _ _ _ _ ?_
       refine hK4 _ _ _ ?_
       refine SW.ret ?_
       refine retQ.ret (H' := H) (RVs.tmp (by conv => lhs; whnf) (RVs.tmp (by conv => lhs; whnf) RVs.nil)) (fun w hw => Sat.sub (by repeat first | exact List.Sublist.refl _ | apply List.Sublist.cons_cons | apply List.Sublist.cons | exact List.sublist_append_right _ _ | refine List.Sublist.trans ?_ (List.sublist_append_right _ _)) hw) ?_
       clear hK4 K4 hK2 K2 hK1 K1 hK0 K0
       exact ⟨rfl, rfl⟩
       )
    ·try simp only [decide_eq_true_eq, decide_eq_false_iff_not, Bool.not_eq_true', Bool.not_eq_false', Int.not_lt, Int.not_le, Int.toNat_natCast] at hs1
     first
      | (exfalso; clear hK2 K2; clear hK1 K1; clear hK0 K0; first | omega | (simp_all; done) | (simp_all; omega))
      | (
       refine RL.st ?_
       refine NV.p T ?_
       refine RL.st ?_
       refine NV.lv1 T ?_
       refine RL.st ?_
       refine NV.p T ?_
       refine RL.st ?_
       refine NV.p T ?_
       refine RL.st ?_
       refine NV.p T ?_
       refine RL.split 19 rfl (fun hs2 => ?_) (fun hs2 => ?_)
       ·try simp only [decide_eq_true_eq, decide_eq_false_iff_not, Bool.not_eq_true', Bool.not_eq_false', Int.not_lt, Int.not_le, Int.toNat_natCast] at hs2
        first
         | (exfalso; clear hK2 K2; clear hK1 K1; clear hK0 K0; first | omega | (simp_all; done) | (simp_all; omega))
         | (
          refine RL.guard_no rfl rfl rfl ?_
          refine RL.guard_no rfl rfl rfl ?_
          refine RL.guard_no rfl rfl rfl ?_
          refine RL.st ?_
          refine NV.p T ?_
          refine RL.nil _ _ _ _ ?_
          refine hK2 _ _ _ ?_
          refine SW.cond_t rfl ?_
          refine SW.seq_k ?_
          intro K5 hK5
          refine SW.region _ _ _ _ ?_
          refine RL.st ?_
          refine NV.p T ?_
          refine RL.st ?_
          refine NV.p T ?_
          refine RL.nil _ _ _ _ ?_
          refine hK5 _ _ _ ?_
          refine SW.ret ?_
          refine retQ.ret (H' := H) (RVs.tmp (by conv => lhs; whnf) (RVs.tmp (by conv => lhs; whnf) RVs.nil)) (fun w hw => Sat.sub (by repeat first | exact List.Sublist.refl _ | apply List.Sublist.cons_cons | apply List.Sublist.cons | exact List.sublist_append_right _ _ | refine List.Sublist.trans ?_ (List.sublist_append_right _ _)) hw) ?_
          clear hK5 K5 hK2 K2 hK1 K1 hK0 K0
          exact ⟨rfl, rfl⟩
          )
       ·try simp only [decide_eq_true_eq, decide_eq_false_iff_not, Bool.not_eq_true', Bool.not_eq_false', Int.not_lt, Int.not_le, Int.toNat_natCast] at hs2
        first
         | (exfalso; clear hK2 K2; clear hK1 K1; clear hK0 K0; first | omega | (simp_all; done) | (simp_all; omega))
         | (
          refine RL.st ?_
          refine NV.p T ?_
          refine RL.st ?_
          refine NV.lv1 T ?_
          refine RL.st ?_
          refine NV.p T ?_
          refine RL.st ?_
          refine NV.p T ?_
          refine RL.nil _ _ _ _ ?_
          refine hK2 _ _ _ ?_
          refine SW.cond rfl (fun hc0 => ?_) (fun hc0 => ?_)
          ·try simp only [decide_eq_true_eq, decide_eq_false_iff_not, Bool.not_eq_true', Bool.not_eq_false', Int.not_lt, Int.not_le, Int.toNat_natCast] at hc0
           first
            | (exfalso; clear hK2 K2; clear hK1 K1; clear hK0 K0; first | omega | (simp_all; done) | (simp_all; omega))
            | (
             refine SW.seq_k ?_
             intro K6 hK6
             refine SW.region _ _ _ _ ?_
             refine RL.st ?_
             refine NV.p T ?_
             refine RL.st ?_
             refine NV.p T ?_
             refine RL.nil _ _ _ _ ?_
             refine hK6 _ _ _ ?_
             refine SW.ret ?_
             refine retQ.ret (H' := H) (RVs.tmp (by conv => lhs; whnf) (RVs.tmp (by conv => lhs; whnf) RVs.nil)) (fun w hw => Sat.sub (by repeat first | exact List.Sublist.refl _ | apply List.Sublist.cons_cons | apply List.Sublist.cons | exact List.sublist_append_right _ _ | refine List.Sublist.trans ?_ (List.sublist_append_right _ _)) hw) ?_
             clear hK6 K6 hK2 K2 hK1 K1 hK0 K0
             exact ⟨rfl, rfl⟩
             )
          ·try simp only [decide_eq_true_eq, decide_eq_false_iff_not, Bool.not_eq_true', Bool.not_eq_false', Int.not_lt, Int.not_le, Int.toNat_natCast] at hc0
           exfalso; clear hK2 K2; clear hK1 K1; clear hK0 K0; first | omega | (simp_all; done) | (simp_all; omega)
          )
       )
    )
theorem rsizeV {w0 : World} {H : List Chunk} (m0 ev : Int) (ah : Bool) : SC Try.prog w0 18 #[.int .i64 m0, .agg #[.int .i64 ev, .bool ah]] H (fun v H' => v = SizeV m0 ev ah ∧ H' = H) := by
  unfold SizeV
  by_cases h : (0 ≤ m0 ∧ m0 ≤ 65536) ∧ wayOk ev = true
  · rw [if_pos h]; exact rsize_ok m0 ev ah h.1.1 h.1.2 (wayOk_iff.1 h.2).1 (wayOk_iff.1 h.2).2
  · rw [if_neg h]; exact rsize_bad m0 ev ah (by rw [wayOk_iff] at h; exact h)
theorem rput_ok {w0 : World} {H : List Chunk} (prev ev : Int) (ah : Bool) (sa : Option Addr) (n c : Nat) (es : List Int) (hR : Rd w0 H sa n c 1 (es.map (.int .u8))) (hn : n = es.length) (hm : n ≤ 140737488351232) (e1 : 1 ≤ ev) (e2 : ev ≤ 64) (p0 : 0 ≤ prev) (p1 : prev ≤ 1) (hz : Bit es) (h5 : n ≤ 65536) (hc : chk es = 0) (x : Int) (hs : SizeV n ev ah = .tuple #[.int .i64 x, .int .i64 0]) (hx : x ≤ 65536) : SC Try.prog w0 14 #[.int .u8 prev, .slice sa n c, .agg #[.int .i64 ev, .bool ah]] H (fun v H' => RV w0 H (putS ev prev (if ah then 0 else ev) es) 0 v H') := by
 refine SC.enter Try.func14 rfl (Nat.le_of_ble_eq_true rfl) ?_
 refine SW.seq_k ?_
 intro K0 hK0
 refine SW.region _ _ _ _ ?_
 refine RL.st ?_
 refine NV.box rfl (by exact (rfl : _ = [_, _])) ?_
 intro b5_0
 refine RL.st ?_
 refine NV.p T ?_
 refine RL.st ?_
 refine NV.p T ?_
 refine RL.nil _ _ _ _ ?_
 refine hK0 _ _ _ ?_
 refine SW.seq_k ?_
 intro K1 hK1
 refine SW.seq_k ?_
 intro K2 hK2
 refine SW.region _ _ _ _ ?_
 refine RL.st ?_
 refine NV.p T ?_
 refine RL.st ?_
 refine NV.p T ?_
 refine RL.st ?_
 refine NV.p T ?_
 refine RL.split 12 rfl (fun hs0 => ?_) (fun hs0 => ?_)
 ·try simp only [decide_eq_true_eq, decide_eq_false_iff_not, Bool.not_eq_true', Bool.not_eq_false', Int.not_lt, Int.not_le, Int.toNat_natCast] at hs0
  first
   | (exfalso; clear hK2 K2; clear hK1 K1; clear hK0 K0; first | omega | (simp_all; done) | (simp_all; omega))
   | (
    refine RL.guard_no rfl rfl rfl ?_
    refine RL.guard_no rfl rfl rfl ?_
    refine RL.guard_no rfl rfl rfl ?_
    refine RL.st ?_
    refine NV.p T ?_
    refine RL.nil _ _ _ _ ?_
    refine hK2 _ _ _ ?_
    refine SW.cond_t rfl ?_
    refine SW.seq_k ?_
    intro K3 hK3
    refine SW.region _ _ _ _ ?_
    refine RL.st ?_
    refine NV.p T ?_
    refine RL.st ?_
    refine NV.p T ?_
    refine RL.nil _ _ _ _ ?_
    refine hK3 _ _ _ ?_
    refine SW.ret ?_
    refine retQ.ret (H' := (Gr ++ .var b5_0 24 [.int .i64 ev, .bool ah] :: H)) (RVs.tmp (by conv => lhs; whnf) (RVs.tmp (by conv => lhs; whnf) RVs.nil)) (fun w hw => Sat.sub (by repeat first | exact List.Sublist.refl _ | apply List.Sublist.cons_cons | apply List.Sublist.cons | exact List.sublist_append_right _ _ | refine List.Sublist.trans ?_ (List.sublist_append_right _ _)) hw) ?_
    clear hK3 K3 hK2 K2 hK1 K1 hK0 K0
    exact ⟨_, rfl, _, _, _, rfl, hnr, hRr, Gr ++ [.var b5_0 24 [.int .i64 ev, .bool ah]], by simp⟩
    )
 ·try simp only [decide_eq_true_eq, decide_eq_false_iff_not, Bool.not_eq_true', Bool.not_eq_false', Int.not_lt, Int.not_le, Int.toNat_natCast] at hs0
  first
   | (exfalso; clear hK2 K2; clear hK1 K1; clear hK0 K0; first | omega | (simp_all; done) | (simp_all; omega))
   | (
    refine RL.st ?_
    refine NV.p T ?_
    refine RL.st ?_
    refine NV.call rfl rfl rfl fun30 rfl rfl ((rcheck sa n c es hR.cons hn hm).mono (fun v H' h => by rw [hc] at h; exact h)) ?_
    rintro _ _ ⟨rfl, e⟩; obtain rfl := e.symm
    refine RL.st ?_
    refine NV.p T ?_
    refine RL.st ?_
    refine NV.p T ?_
    refine RL.nil _ _ _ _ ?_
    refine hK2 _ _ _ ?_
    refine SW.cond rfl (fun hc0 => ?_) (fun hc0 => ?_)
    ·try simp only [decide_eq_true_eq, decide_eq_false_iff_not, Bool.not_eq_true', Bool.not_eq_false', Int.not_lt, Int.not_le, Int.toNat_natCast] at hc0
     first
      | (exfalso; clear hK2 K2; clear hK1 K1; clear hK0 K0; first | omega | (simp_all; done) | (simp_all; omega))
      | (
       refine SW.seq_k ?_
       intro K4 hK4
       refine SW.region _ _ _ _ ?_
       refine RL.st ?_
       refine NV.p T ?_
       refine RL.st ?_
       refine NV.p T ?_
       refine RL.nil _ _ _ _ ?_
       refine hK4 _ _ _ ?_
       refine SW.ret ?_
       refine retQ.ret (H' := (Gr ++ .var b5_0 24 [.int .i64 ev, .bool ah] :: H)) (RVs.tmp (by conv => lhs; whnf) (RVs.tmp (by conv => lhs; whnf) RVs.nil)) (fun w hw => Sat.sub (by repeat first | exact List.Sublist.refl _ | apply List.Sublist.cons_cons | apply List.Sublist.cons | exact List.sublist_append_right _ _ | refine List.Sublist.trans ?_ (List.sublist_append_right _ _)) hw) ?_
       clear hK4 K4 hK2 K2 hK1 K1 hK0 K0
       exact ⟨_, rfl, _, _, _, rfl, hnr, hRr, Gr ++ [.var b5_0 24 [.int .i64 ev, .bool ah]], by simp⟩
       )
    ·try simp only [decide_eq_true_eq, decide_eq_false_iff_not, Bool.not_eq_true', Bool.not_eq_false', Int.not_lt, Int.not_le, Int.toNat_natCast] at hc0
     first
      | (exfalso; clear hK2 K2; clear hK1 K1; clear hK0 K0; first | omega | (simp_all; done) | (simp_all; omega))
      | (
       refine SW.skip ?_
       refine hK1 _ _ _ ?_
       refine SW.seq_k ?_
       intro K5 hK5
       refine SW.region _ _ _ _ ?_
       refine RL.st ?_
       refine NV.p T ?_
       refine RL.st ?_
       refine NV.p T ?_
       refine RL.st ?_
       refine NV.load_varN T rfl rfl rfl rfl rfl (by repeat first | exact At.head _ _ | assumption | exact At.put (by assumption) _ | apply At.tail | apply At.app) (by exact (rfl : _ = [_, _])) rfl ?_
       refine RL.st ?_
       refine NV.call rfl rfl rfl fun18 rfl rfl ((rsizeV (n : Int) ev ah).mono (fun v H' h => by rw [hs] at h; exact h)) ?_
       rintro _ _ ⟨rfl, e⟩; obtain rfl := e.symm
       refine RL.st ?_
       refine NV.p T ?_
       refine RL.st ?_
       refine NV.p T ?_
       refine RL.st ?_
       refine NV.p T ?_
       refine RL.st ?_
       refine NV.p T ?_
       refine RL.st ?_
       refine NV.p T ?_
       refine RL.nil _ _ _ _ ?_
       refine hK5 _ _ _ ?_
       refine SW.seq_k ?_
       intro K6 hK6
       refine SW.seq_k ?_
       intro K7 hK7
       refine SW.region _ _ _ _ ?_
       refine RL.st ?_
       refine NV.p T ?_
       refine RL.st ?_
       refine NV.p T ?_
       refine RL.st ?_
       refine NV.p T ?_
       refine RL.split 26 rfl (fun hs1 => ?_) (fun hs1 => ?_)
       ·try simp only [decide_eq_true_eq, decide_eq_false_iff_not, Bool.not_eq_true', Bool.not_eq_false', Int.not_lt, Int.not_le, Int.toNat_natCast] at hs1
        first
         | (exfalso; clear hK7 K7; clear hK6 K6; clear hK5 K5; clear hK2 K2; clear hK1 K1; clear hK0 K0; first | omega | (simp_all; done) | (simp_all; omega))
         | (
          refine RL.guard_no rfl rfl rfl ?_
          refine RL.guard_no rfl rfl rfl ?_
          refine RL.st ?_
          refine NV.p T ?_
          refine RL.nil _ _ _ _ ?_
          refine hK7 _ _ _ ?_
          refine SW.cond_t rfl ?_
          refine SW.seq_k ?_
          intro K8 hK8
          refine SW.region _ _ _ _ ?_
          refine RL.st ?_
          refine NV.p T ?_
          refine RL.st ?_
          refine NV.p T ?_
          refine RL.nil _ _ _ _ ?_
          refine hK8 _ _ _ ?_
          refine SW.ret ?_
          refine retQ.ret (H' := (Gr ++ .var b5_0 24 [.int .i64 ev, .bool ah] :: H)) (RVs.tmp (by conv => lhs; whnf) (RVs.tmp (by conv => lhs; whnf) RVs.nil)) (fun w hw => Sat.sub (by repeat first | exact List.Sublist.refl _ | apply List.Sublist.cons_cons | apply List.Sublist.cons | exact List.sublist_append_right _ _ | refine List.Sublist.trans ?_ (List.sublist_append_right _ _)) hw) ?_
          clear hK8 K8 hK7 K7 hK6 K6 hK5 K5 hK2 K2 hK1 K1 hK0 K0
          exact ⟨_, rfl, _, _, _, rfl, hnr, hRr, Gr ++ [.var b5_0 24 [.int .i64 ev, .bool ah]], by simp⟩
          )
       ·try simp only [decide_eq_true_eq, decide_eq_false_iff_not, Bool.not_eq_true', Bool.not_eq_false', Int.not_lt, Int.not_le, Int.toNat_natCast] at hs1
        first
         | (exfalso; clear hK7 K7; clear hK6 K6; clear hK5 K5; clear hK2 K2; clear hK1 K1; clear hK0 K0; first | omega | (simp_all; done) | (simp_all; omega))
         | (
          refine RL.st ?_
          refine NV.p T ?_
          refine RL.st ?_
          refine NV.p T ?_
          refine RL.st ?_
          refine NV.p T ?_
          refine RL.nil _ _ _ _ ?_
          refine hK7 _ _ _ ?_
          refine SW.cond rfl (fun hc1 => ?_) (fun hc1 => ?_)
          ·try simp only [decide_eq_true_eq, decide_eq_false_iff_not, Bool.not_eq_true', Bool.not_eq_false', Int.not_lt, Int.not_le, Int.toNat_natCast] at hc1
           first
            | (exfalso; clear hK7 K7; clear hK6 K6; clear hK5 K5; clear hK2 K2; clear hK1 K1; clear hK0 K0; first | omega | (simp_all; done) | (simp_all; omega))
            | (
             refine SW.seq_k ?_
             intro K9 hK9
             refine SW.region _ _ _ _ ?_
             refine RL.st ?_
             refine NV.p T ?_
             refine RL.st ?_
             refine NV.p T ?_
             refine RL.nil _ _ _ _ ?_
             refine hK9 _ _ _ ?_
             refine SW.ret ?_
             refine retQ.ret (H' := (Gr ++ .var b5_0 24 [.int .i64 ev, .bool ah] :: H)) (RVs.tmp (by conv => lhs; whnf) (RVs.tmp (by conv => lhs; whnf) RVs.nil)) (fun w hw => Sat.sub (by repeat first | exact List.Sublist.refl _ | apply List.Sublist.cons_cons | apply List.Sublist.cons | exact List.sublist_append_right _ _ | refine List.Sublist.trans ?_ (List.sublist_append_right _ _)) hw) ?_
             clear hK9 K9 hK7 K7 hK6 K6 hK5 K5 hK2 K2 hK1 K1 hK0 K0
             exact ⟨_, rfl, _, _, _, rfl, hnr, hRr, Gr ++ [.var b5_0 24 [.int .i64 ev, .bool ah]], by simp⟩
             )
          ·try simp only [decide_eq_true_eq, decide_eq_false_iff_not, Bool.not_eq_true', Bool.not_eq_false', Int.not_lt, Int.not_le, Int.toNat_natCast] at hc1
           first
            | (exfalso; clear hK7 K7; clear hK6 K6; clear hK5 K5; clear hK2 K2; clear hK1 K1; clear hK0 K0; first | omega | (simp_all; done) | (simp_all; omega))
            | (
             refine SW.skip ?_
             refine hK6 _ _ _ ?_
             refine SW.seq_k ?_
             intro K10 hK10
             refine SW.region _ _ _ _ ?_
             refine RL.st ?_
             refine NV.p T ?_
             refine RL.st ?_
             refine NV.p T ?_
             refine RL.st ?_
             refine NV.load_varN T rfl rfl rfl rfl rfl (by repeat first | exact At.head _ _ | assumption | exact At.put (by assumption) _ | apply At.tail | apply At.app) (by exact (rfl : _ = [_, _])) rfl ?_
             refine RL.st ?_
             refine NV.call rfl rfl rfl fun31 rfl rfl (raw prev ev ah sa n c es hR.cons hn hm e1 e2 p0 p1 hz h5) ?_
             rintro _ _ ⟨ar, nr, cr, rfl, hnr, hRr, Gr, e⟩; obtain rfl := e.symm
             refine RL.st ?_
             refine NV.p T ?_
             refine RL.st ?_
             refine NV.p T ?_
             refine RL.nil _ _ _ _ ?_
             refine hK10 _ _ _ ?_
             refine SW.ret ?_
             refine retQ.ret (H' := (Gr ++ .var b5_0 24 [.int .i64 ev, .bool ah] :: H)) (RVs.tmp (by conv => lhs; whnf) (RVs.tmp (by conv => lhs; whnf) RVs.nil)) (fun w hw => Sat.sub (by repeat first | exact List.Sublist.refl _ | apply List.Sublist.cons_cons | apply List.Sublist.cons | exact List.sublist_append_right _ _ | refine List.Sublist.trans ?_ (List.sublist_append_right _ _)) hw) ?_
             clear hK10 K10 hK7 K7 hK6 K6 hK5 K5 hK2 K2 hK1 K1 hK0 K0
             exact ⟨_, rfl, _, _, _, rfl, hnr, hRr, Gr ++ [.var b5_0 24 [.int .i64 ev, .bool ah]], by simp⟩
             )
          )
       )
    )
theorem rput_bad1 {w0 : World} {H : List Chunk} (prev ev : Int) (ah : Bool) (sa : Option Addr) (n c : Nat) (es : List Int) (hR : Rd w0 H sa n c 1 (es.map (.int .u8))) (hn : n = es.length) (hm : n ≤ 140737488351232) (h : 1 < prev ∨ chk es ≠ 0) : SC Try.prog w0 14 #[.int .u8 prev, .slice sa n c, .agg #[.int .i64 ev, .bool ah]] H (fun v H' => v = .tuple #[.slice none 0 0, .int .i64 2] ∧ H' = H) := by
 refine SC.enter Try.func14 rfl (Nat.le_of_ble_eq_true rfl) ?_
 refine SW.seq_k ?_
 intro K0 hK0
 refine SW.region _ _ _ _ ?_
 refine RL.st ?_
 refine NV.box rfl (by exact (rfl : _ = [_, _])) ?_
 intro b5_0
 refine RL.st ?_
 refine NV.p T ?_
 refine RL.st ?_
 refine NV.p T ?_
 refine RL.nil _ _ _ _ ?_
 refine hK0 _ _ _ ?_
 refine SW.seq_k ?_
 intro K1 hK1
 refine SW.seq_k ?_
 intro K2 hK2
 refine SW.region _ _ _ _ ?_
 refine RL.st ?_
 refine NV.p T ?_
 refine RL.st ?_
 refine NV.p T ?_
 refine RL.st ?_
 refine NV.p T ?_
 refine RL.split 12 rfl (fun hs0 => ?_) (fun hs0 => ?_)
 ·try simp only [decide_eq_true_eq, decide_eq_false_iff_not, Bool.not_eq_true', Bool.not_eq_false', Int.not_lt, Int.not_le, Int.toNat_natCast] at hs0
  first
   | (exfalso; clear hK2 K2; clear hK1 K1; clear hK0 K0; first | omega | (simp_all; done) | (simp_all; omega))
   | (
    refine RL.guard_no rfl rfl rfl ?_
    refine RL.guard_no rfl rfl rfl ?_
    refine RL.guard_no rfl rfl rfl ?_
    refine RL.st ?_
    refine NV.p T ?_
    refine RL.nil _ _ _ _ ?_
    refine hK2 _ _ _ ?_
    refine SW.cond_t rfl ?_
    refine SW.seq_k ?_
    intro K3 hK3
    refine SW.region _ _ _ _ ?_
    refine RL.st ?_
    refine NV.p T ?_
    refine RL.st ?_
    refine NV.p T ?_
    refine RL.nil _ _ _ _ ?_
    refine hK3 _ _ _ ?_
    refine SW.ret ?_
    refine retQ.ret (H' := H) (RVs.tmp (by conv => lhs; whnf) (RVs.tmp (by conv => lhs; whnf) RVs.nil)) (fun w hw => Sat.sub (by repeat first | exact List.Sublist.refl _ | apply List.Sublist.cons_cons | apply List.Sublist.cons | exact List.sublist_append_right _ _ | refine List.Sublist.trans ?_ (List.sublist_append_right _ _)) hw) ?_
    clear hK3 K3 hK2 K2 hK1 K1 hK0 K0
    exact ⟨rfl, rfl⟩
    )
 ·try simp only [decide_eq_true_eq, decide_eq_false_iff_not, Bool.not_eq_true', Bool.not_eq_false', Int.not_lt, Int.not_le, Int.toNat_natCast] at hs0
  first
   | (exfalso; clear hK2 K2; clear hK1 K1; clear hK0 K0; first | omega | (simp_all; done) | (simp_all; omega))
   | (
    refine RL.st ?_
    refine NV.p T ?_
    refine RL.st ?_
    refine NV.call rfl rfl rfl fun30 rfl rfl (rcheck sa n c es hR.cons hn hm) ?_
    rintro _ _ ⟨rfl, e⟩; obtain rfl := e.symm
    refine RL.st ?_
    refine NV.p T ?_
    refine RL.st ?_
    refine NV.p T ?_
    refine RL.nil _ _ _ _ ?_
    refine hK2 _ _ _ ?_
    refine SW.cond rfl (fun hc0 => ?_) (fun hc0 => ?_)
    ·try simp only [decide_eq_true_eq, decide_eq_false_iff_not, Bool.not_eq_true', Bool.not_eq_false', Int.not_lt, Int.not_le, Int.toNat_natCast] at hc0
     first
      | (exfalso; clear hK2 K2; clear hK1 K1; clear hK0 K0; first | omega | (simp_all; done) | (simp_all; omega))
      | (
       refine SW.seq_k ?_
       intro K4 hK4
       refine SW.region _ _ _ _ ?_
       refine RL.st ?_
       refine NV.p T ?_
       refine RL.st ?_
       refine NV.p T ?_
       refine RL.nil _ _ _ _ ?_
       refine hK4 _ _ _ ?_
       refine SW.ret ?_
       refine retQ.ret (H' := H) (RVs.tmp (by conv => lhs; whnf) (RVs.tmp (by conv => lhs; whnf) RVs.nil)) (fun w hw => Sat.sub (by repeat first | exact List.Sublist.refl _ | apply List.Sublist.cons_cons | apply List.Sublist.cons | exact List.sublist_append_right _ _ | refine List.Sublist.trans ?_ (List.sublist_append_right _ _)) hw) ?_
       clear hK4 K4 hK2 K2 hK1 K1 hK0 K0
       exact ⟨rfl, rfl⟩
       )
    ·try simp only [decide_eq_true_eq, decide_eq_false_iff_not, Bool.not_eq_true', Bool.not_eq_false', Int.not_lt, Int.not_le, Int.toNat_natCast] at hc0
     exfalso; clear hK2 K2; clear hK1 K1; clear hK0 K0; first | omega | (simp_all; done) | (simp_all; omega)
    )
theorem rput_bad2 {w0 : World} {H : List Chunk} (prev ev : Int) (ah : Bool) (sa : Option Addr) (n c : Nat) (es : List Int) (hR : Rd w0 H sa n c 1 (es.map (.int .u8))) (hn : n = es.length) (hm : n ≤ 140737488351232) (hp : prev ≤ 1) (hc : chk es = 0) (x y : Int) (hs : SizeV n ev ah = .tuple #[.int .i64 x, .int .i64 y]) (h : y ≠ 0 ∨ 65536 < x) : SC Try.prog w0 14 #[.int .u8 prev, .slice sa n c, .agg #[.int .i64 ev, .bool ah]] H (fun v H' => v = .tuple #[.slice none 0 0, .int .i64 2] ∧ H' = H) := by
 refine SC.enter Try.func14 rfl (Nat.le_of_ble_eq_true rfl) ?_
 refine SW.seq_k ?_
 intro K0 hK0
 refine SW.region _ _ _ _ ?_
 refine RL.st ?_
 refine NV.box rfl (by exact (rfl : _ = [_, _])) ?_
 intro b5_0
 refine RL.st ?_
 refine NV.p T ?_
 refine RL.st ?_
 refine NV.p T ?_
 refine RL.nil _ _ _ _ ?_
 refine hK0 _ _ _ ?_
 refine SW.seq_k ?_
 intro K1 hK1
 refine SW.seq_k ?_
 intro K2 hK2
 refine SW.region _ _ _ _ ?_
 refine RL.st ?_
 refine NV.p T ?_
 refine RL.st ?_
 refine NV.p T ?_
 refine RL.st ?_
 refine NV.p T ?_
 refine RL.split 12 rfl (fun hs0 => ?_) (fun hs0 => ?_)
 ·try simp only [decide_eq_true_eq, decide_eq_false_iff_not, Bool.not_eq_true', Bool.not_eq_false', Int.not_lt, Int.not_le, Int.toNat_natCast] at hs0
  first
   | (exfalso; clear hK2 K2; clear hK1 K1; clear hK0 K0; first | omega | (simp_all; done) | (simp_all; omega))
   | (
    refine RL.guard_no rfl rfl rfl ?_
    refine RL.guard_no rfl rfl rfl ?_
    refine RL.guard_no rfl rfl rfl ?_
    refine RL.st ?_
    refine NV.p T ?_
    refine RL.nil _ _ _ _ ?_
    refine hK2 _ _ _ ?_
    refine SW.cond_t rfl ?_
    refine SW.seq_k ?_
    intro K3 hK3
    refine SW.region _ _ _ _ ?_
    refine RL.st ?_
    refine NV.p T ?_
    refine RL.st ?_
    refine NV.p T ?_
    refine RL.nil _ _ _ _ ?_
    refine hK3 _ _ _ ?_
    refine SW.ret ?_
    refine retQ.ret (H' := H) (RVs.tmp (by conv => lhs; whnf) (RVs.tmp (by conv => lhs; whnf) RVs.nil)) (fun w hw => Sat.sub (by repeat first | exact List.Sublist.refl _ | apply List.Sublist.cons_cons | apply List.Sublist.cons | exact List.sublist_append_right _ _ | refine List.Sublist.trans ?_ (List.sublist_append_right _ _)) hw) ?_
    clear hK3 K3 hK2 K2 hK1 K1 hK0 K0
    exact ⟨rfl, rfl⟩
    )
 ·try simp only [decide_eq_true_eq, decide_eq_false_iff_not, Bool.not_eq_true', Bool.not_eq_false', Int.not_lt, Int.not_le, Int.toNat_natCast] at hs0
  first
   | (exfalso; clear hK2 K2; clear hK1 K1; clear hK0 K0; first | omega | (simp_all; done) | (simp_all; omega))
   | (
    refine RL.st ?_
    refine NV.p T ?_
    refine RL.st ?_
    refine NV.call rfl rfl rfl fun30 rfl rfl ((rcheck sa n c es hR.cons hn hm).mono (fun v H' h => by rw [hc] at h; exact h)) ?_
    rintro _ _ ⟨rfl, e⟩; obtain rfl := e.symm
    refine RL.st ?_
    refine NV.p T ?_
    refine RL.st ?_
    refine NV.p T ?_
    refine RL.nil _ _ _ _ ?_
    refine hK2 _ _ _ ?_
    refine SW.cond rfl (fun hc0 => ?_) (fun hc0 => ?_)
    ·try simp only [decide_eq_true_eq, decide_eq_false_iff_not, Bool.not_eq_true', Bool.not_eq_false', Int.not_lt, Int.not_le, Int.toNat_natCast] at hc0
     first
      | (exfalso; clear hK2 K2; clear hK1 K1; clear hK0 K0; first | omega | (simp_all; done) | (simp_all; omega))
      | (
       refine SW.seq_k ?_
       intro K4 hK4
       refine SW.region _ _ _ _ ?_
       refine RL.st ?_
       refine NV.p T ?_
       refine RL.st ?_
       refine NV.p T ?_
       refine RL.nil _ _ _ _ ?_
       refine hK4 _ _ _ ?_
       refine SW.ret ?_
       refine retQ.ret (H' := H) (RVs.tmp (by conv => lhs; whnf) (RVs.tmp (by conv => lhs; whnf) RVs.nil)) (fun w hw => Sat.sub (by repeat first | exact List.Sublist.refl _ | apply List.Sublist.cons_cons | apply List.Sublist.cons | exact List.sublist_append_right _ _ | refine List.Sublist.trans ?_ (List.sublist_append_right _ _)) hw) ?_
       clear hK4 K4 hK2 K2 hK1 K1 hK0 K0
       exact ⟨rfl, rfl⟩
       )
    ·try simp only [decide_eq_true_eq, decide_eq_false_iff_not, Bool.not_eq_true', Bool.not_eq_false', Int.not_lt, Int.not_le, Int.toNat_natCast] at hc0
     first
      | (exfalso; clear hK2 K2; clear hK1 K1; clear hK0 K0; first | omega | (simp_all; done) | (simp_all; omega))
      | (
       refine SW.skip ?_
       refine hK1 _ _ _ ?_
       refine SW.seq_k ?_
       intro K5 hK5
       refine SW.region _ _ _ _ ?_
       refine RL.st ?_
       refine NV.p T ?_
       refine RL.st ?_
       refine NV.p T ?_
       refine RL.st ?_
       refine NV.load_varN T rfl rfl rfl rfl rfl (by repeat first | exact At.head _ _ | assumption | exact At.put (by assumption) _ | apply At.tail | apply At.app) (by exact (rfl : _ = [_, _])) rfl ?_
       refine RL.st ?_
       refine NV.call rfl rfl rfl fun18 rfl rfl ((rsizeV (n : Int) ev ah).mono (fun v H' h => by rw [hs] at h; exact h)) ?_
       rintro _ _ ⟨rfl, e⟩; obtain rfl := e.symm
       refine RL.st ?_
       refine NV.p T ?_
       refine RL.st ?_
       refine NV.p T ?_
       refine RL.st ?_
       refine NV.p T ?_
       refine RL.st ?_
       refine NV.p T ?_
       refine RL.st ?_
       refine NV.p T ?_
       refine RL.nil _ _ _ _ ?_
       refine hK5 _ _ _ ?_
       refine SW.seq_k ?_
       intro K6 hK6
       refine SW.seq_k ?_
       intro K7 hK7
       refine SW.region _ _ _ _ ?_
       refine RL.st ?_
       refine NV.p T ?_
       refine RL.st ?_
       refine NV.p T ?_
       refine RL.st ?_
       refine NV.p T ?_
       refine RL.split 26 rfl (fun hs1 => ?_) (fun hs1 => ?_)
       ·try simp only [decide_eq_true_eq, decide_eq_false_iff_not, Bool.not_eq_true', Bool.not_eq_false', Int.not_lt, Int.not_le, Int.toNat_natCast] at hs1
        first
         | (exfalso; clear hK7 K7; clear hK6 K6; clear hK5 K5; clear hK2 K2; clear hK1 K1; clear hK0 K0; first | omega | (simp_all; done) | (simp_all; omega))
         | (
          refine RL.guard_no rfl rfl rfl ?_
          refine RL.guard_no rfl rfl rfl ?_
          refine RL.st ?_
          refine NV.p T ?_
          refine RL.nil _ _ _ _ ?_
          refine hK7 _ _ _ ?_
          refine SW.cond_t rfl ?_
          refine SW.seq_k ?_
          intro K8 hK8
          refine SW.region _ _ _ _ ?_
          refine RL.st ?_
          refine NV.p T ?_
          refine RL.st ?_
          refine NV.p T ?_
          refine RL.nil _ _ _ _ ?_
          refine hK8 _ _ _ ?_
          refine SW.ret ?_
          refine retQ.ret (H' := H) (RVs.tmp (by conv => lhs; whnf) (RVs.tmp (by conv => lhs; whnf) RVs.nil)) (fun w hw => Sat.sub (by repeat first | exact List.Sublist.refl _ | apply List.Sublist.cons_cons | apply List.Sublist.cons | exact List.sublist_append_right _ _ | refine List.Sublist.trans ?_ (List.sublist_append_right _ _)) hw) ?_
          clear hK8 K8 hK7 K7 hK6 K6 hK5 K5 hK2 K2 hK1 K1 hK0 K0
          exact ⟨rfl, rfl⟩
          )
       ·try simp only [decide_eq_true_eq, decide_eq_false_iff_not, Bool.not_eq_true', Bool.not_eq_false', Int.not_lt, Int.not_le, Int.toNat_natCast] at hs1
        first
         | (exfalso; clear hK7 K7; clear hK6 K6; clear hK5 K5; clear hK2 K2; clear hK1 K1; clear hK0 K0; first | omega | (simp_all; done) | (simp_all; omega))
         | (
          refine RL.st ?_
          refine NV.p T ?_
          refine RL.st ?_
          refine NV.p T ?_
          refine RL.st ?_
          refine NV.p T ?_
          refine RL.nil _ _ _ _ ?_
          refine hK7 _ _ _ ?_
          refine SW.cond rfl (fun hc1 => ?_) (fun hc1 => ?_)
          ·try simp only [decide_eq_true_eq, decide_eq_false_iff_not, Bool.not_eq_true', Bool.not_eq_false', Int.not_lt, Int.not_le, Int.toNat_natCast] at hc1
           first
            | (exfalso; clear hK7 K7; clear hK6 K6; clear hK5 K5; clear hK2 K2; clear hK1 K1; clear hK0 K0; first | omega | (simp_all; done) | (simp_all; omega))
            | (
             refine SW.seq_k ?_
             intro K9 hK9
             refine SW.region _ _ _ _ ?_
             refine RL.st ?_
             refine NV.p T ?_
             refine RL.st ?_
             refine NV.p T ?_
             refine RL.nil _ _ _ _ ?_
             refine hK9 _ _ _ ?_
             refine SW.ret ?_
             refine retQ.ret (H' := H) (RVs.tmp (by conv => lhs; whnf) (RVs.tmp (by conv => lhs; whnf) RVs.nil)) (fun w hw => Sat.sub (by repeat first | exact List.Sublist.refl _ | apply List.Sublist.cons_cons | apply List.Sublist.cons | exact List.sublist_append_right _ _ | refine List.Sublist.trans ?_ (List.sublist_append_right _ _)) hw) ?_
             clear hK9 K9 hK7 K7 hK6 K6 hK5 K5 hK2 K2 hK1 K1 hK0 K0
             exact ⟨rfl, rfl⟩
             )
          ·try simp only [decide_eq_true_eq, decide_eq_false_iff_not, Bool.not_eq_true', Bool.not_eq_false', Int.not_lt, Int.not_le, Int.toNat_natCast] at hc1
           exfalso; clear hK7 K7; clear hK6 K6; clear hK5 K5; clear hK2 K2; clear hK1 K1; clear hK0 K0; first | omega | (simp_all; done) | (simp_all; omega)
          )
       )
    )
theorem sizeN_ok {n : Nat} {ev : Int} {ah : Bool} (h : n ≤ 65536) (e1 : 1 ≤ ev) (e2 : ev ≤ 64) : SizeV n ev ah = .tuple #[.int .i64 (fsize n ev ah), .int .i64 0] := by
  unfold SizeV; rw [if_pos ⟨⟨by omega, by omega⟩, wayOk_iff.2 ⟨e1, e2⟩⟩]
/-- Put of the reference, of anything. -/
theorem rput {w0 : World} {H : List Chunk} (prev ev : Int) (ah : Bool) (sa : Option Addr) (n c : Nat) (es : List Int) (hR : Rd w0 H sa n c 1 (es.map (.int .u8))) (hn : n = es.length) (hm : n ≤ 140737488351232) (p0 : 0 ≤ prev) (hb : Byte es) : SC Try.prog w0 14 #[.int .u8 prev, .slice sa n c, .agg #[.int .i64 ev, .bool ah]] H (fun v H' => RV w0 H (putV prev es ev ah).1 (putV prev es ev ah).2 v H') := by
  have no : ∀ v H', v = .tuple #[.slice none 0 0, .int .i64 2] ∧ H' = H → RV w0 H [] 2 v H' := by rintro _ _ ⟨rfl, rfl⟩; exact ⟨_, rfl, Res.nil⟩
  by_cases h1 : 1 < prev ∨ chk es ≠ 0
  · rw [putV_bad (by rw [fck_iff]; omega)]; exact (rput_bad1 prev ev ah sa n c es hR hn hm h1).mono no
  · have hc : chk es = 0 := by omega
    have hcz := chk_zero.1 hc
    by_cases h2 : 1 ≤ ev ∧ ev ≤ 64
    · have hs := sizeN_ok (n := n) (ev := ev) (ah := ah) (by omega) h2.1 h2.2
      by_cases h3 : fsize es.length ev ah ≤ 65536
      · rw [putV_ok (fck_iff.2 ⟨by omega, hc, h2.1, h2.2⟩) h3]
        exact rput_ok prev ev ah sa n c es hR hn hm h2.1 h2.2 p0 (by omega) (bit_of hb hcz.2) (by omega) hc _ hs (by rw [hn]; exact h3)
      · rw [putV_bad (fun h => h3 h.2)]; exact (rput_bad2 prev ev ah sa n c es hR hn hm (by omega) hc _ _ hs (.inr (by rw [hn]; omega))).mono no
    · rw [putV_bad (by rw [fck_iff]; omega)]
      refine (rput_bad2 prev ev ah sa n c es hR hn hm (by omega) hc 0 2 ?_ (.inl (by omega))).mono no
      unfold SizeV; rw [if_neg (by rw [wayOk_iff]; omega)]
/-- Put of the program, of anything: what it lays is its own. -/
theorem put {w0 : World} {H : List Chunk} (prev ev : Int) (ah : Bool) (sa : Option Addr) (n c : Nat) (es : List Int) (hR : Rd w0 H sa n c 1 (es.map (.int .u8))) (hn : n = es.length) (hm : n ≤ 140737488351232) (p0 : 0 ≤ prev) (hb : Byte es) : SC Try.prog w0 11 #[.int .u8 prev, .slice sa n c, .agg #[.int .i64 ev, .bool ah]] H (fun v H' => ∃ sr cr, v = .tuple #[.slice sr (putV prev es ev ah).1.length cr, .int .i64 (putV prev es ev ah).2] ∧ H' = .row sr (putV prev es ev ah).1.length cr 5 1 ((putV prev es ev ah).1.map (.int .u8)) :: H) := by
  have no : ∀ (v : Value) (H' : List Chunk), v = .tuple #[.slice none 0 0, .int .i64 2] ∧ H' = .row none 0 0 5 1 [] :: H → ∃ sr cr, v = .tuple #[.slice sr ([] : List Int).length cr, .int .i64 2] ∧ H' = .row sr ([] : List Int).length cr 5 1 (([] : List Int).map (.int .u8)) :: H := by rintro _ _ ⟨rfl, rfl⟩; exact ⟨_, _, rfl, rfl⟩
  obtain ⟨x, y, hs⟩ : ∃ x y, SizeV n ev ah = .tuple #[.int .i64 x, .int .i64 y] := ⟨_, _, SizeV_eq _ _ _⟩
  cases hf : fck prev es ev with
  | false => rw [putV_bad (by rw [hf]; simp)]; exact SC.nilrow 5 1 ((put_bad prev ev ah sa n c es hR.cons hn hm x y hs hf).mono no)
  | true =>
    have hi := fck_iff.1 hf
    have hcz := chk_zero.1 hi.2.1
    have hs2 := sizeN_ok (n := n) (ev := ev) (ah := ah) (by omega) hi.2.2.1 hi.2.2.2
    have hfs := fsize_le (m := n) (ev := ev) (ah := ah) (by omega) hi.2.2.1
    by_cases h3 : fsize es.length ev ah ≤ 65536
    · rw [putV_ok hf h3]
      refine (put_ok prev ev ah sa n c es hR hn hm (fsize n ev ah).toNat hf (by omega) hi.2.2.1 hi.2.2.2 p0 hi.1 (by omega) (by rw [hn]; omega) (bit_of hb hcz.2)).mono ?_
      rintro _ _ ⟨sr, cr, L, rfl, rfl, rfl⟩
      exact ⟨_, _, rfl, rfl⟩
    · rw [putV_bad (fun h => h3 h.2)]
      exact SC.nilrow 5 1 ((put_long prev ev ah sa n c es hR.cons hn hm _ _ hs2 hf (by rw [hn]; omega)).mono no)
end Go.Proofs.Ytdcahmifalabnaa.M
