import Derived.Test.YtilffbgepliamaaProg
import Derived.Test.YtilffbgepliamaaFB3
set_option linter.unusedVariables false
set_option linter.unusedSimpArgs false
namespace Go.Proofs.Ytilffbgepliamaa.M
open Go Go.Sep Go.Proofs
set_option maxRecDepth 10000
set_option maxHeartbeats 2000000
theorem read_ok {w0 : World} {H : List Chunk} (bl bn bo : Nat) (sa : Option Addr) (n c : Nat) (es : List Int) (hR : Rd w0 H sa n c 1 (es.map (.int .u8))) (hn : n = es.length) (hm : n ≤ 140737488351232) (o' : List Int) (q' : Int) (d' : Bool) (hg : getF [] ([], 0, false) es = some (o', q', d')) : SC Try.prog w0 32 #[.slice sa n c, .func (.func 35) #[] #[.pointer (some ⟨bl, 0, none⟩), .pointer (some ⟨bn, 0, none⟩), .pointer (some ⟨bo, 0, none⟩)]] (.row none 0 0 5 1 (([] : List Int).map (.int .u8)) :: .var bl 4 [.bool false] :: .var bn 3 [.int .i64 0] :: .var bo 22 [.slice none 0 0] :: H) (fun v H' => v = .int .i64 0 ∧ ∃ sr cr, H' = (.row sr o'.length cr 5 1 (o'.map (.int .u8)) :: .var bl 4 [.bool d'] :: .var bn 3 [.int .i64 q'] :: .var bo 22 [.slice sr o'.length cr] :: H)) := by
 refine SC.enter Try.func32 rfl (Nat.le_of_ble_eq_true rfl) ?_
 refine SW.seq_k ?_
 intro K0 hK0
 refine SW.region _ _ _ _ ?_
 refine RL.st ?_
 refine NV.p T ?_
 refine RL.nil _ _ _ _ ?_
 refine hK0 _ _ _ ?_
 refine SW.seq_k ?_
 intro K1 hK1
 refine SW.region _ _ _ _ ?_
 refine RL.st ?_
 refine NV.alloc T rfl rfl rfl (by exact (rfl : _ = [_, _])) ?_
 intro b5_0
 refine RL.nil _ _ _ _ ?_
 refine hK1 _ _ _ ?_
 refine SW.seq_k ?_
 intro K2 hK2
 refine SW.seq_k ?_
 intro K3 hK3
 refine SW.region _ _ _ _ ?_
 refine RL.st ?_
 refine NV.p T ?_
 refine RL.st ?_
 refine NV.p T ?_
 refine RL.st ?_
 refine NV.p T ?_
 refine RL.nil _ _ _ _ ?_
 refine hK3 _ _ _ ?_
 refine SW.block ?_
 refine SW.loopM (fun frB mm fr ds HH => ∃ (k : Nat) (sr : Option Addr) (L cr : Nat) (o : List Int) (q : Int) (d : Bool), mm = n - k ∧ (k ≤ n ∧ (L = o.length ∧ UI es k o q d)) ∧ FrIs [4, 6, 7, 8, 11, 12, 13, 14, 15, 16, 17, 18, 19, 20, 21, 22, 23, 24, 25, 26, 27, 28, 29, 30, 31, 32] frB fr [(11, .int .i64 k)] ∧ ds = [] ∧ HH = (.var b5_0 40 [.int .u8 (st (es.take k)).1, .int .i64 (st (es.take k)).2] :: .row sr L cr 5 1 (o.map (.int .u8)) :: .var bl 4 [.bool d] :: .var bn 3 [.int .i64 q] :: .var bo 22 [.slice sr L cr] :: H)) (n := n - 0) ?_ ?_
 ·exact ⟨0, none, 0, 0, [], 0, false, rfl, ⟨Nat.zero_le _, ⟨rfl, UI.start⟩⟩, (.cons rfl (.nil (by repeat first | exact Mx.refl | exact Mx.mix | refine Mx.put rfl ?_ | refine Mx.upd rfl ?_ | refine Mx.updl rfl ?_ | refine Mx.fin rfl ?_ | refine Mx.inner rfl ?_ | refine Mx.none ?_))), rfl, rfl⟩
 ·rintro mm fr ds HH ⟨k, sr, L, cr, o, q, d, rfl, ⟨hk, ⟨hL, hI⟩⟩, hFr, rfl, eHH⟩
  obtain rfl := eHH.symm
  obtain ⟨frU, rfl⟩ := hFr.eq
  clear hFr
  have hkn := hI.kn
  have hlen := hI.len
  have h5' := hI.r5
  have hq0 := hI.n0
  have hqk := hI.nk
  have hr0 := (st_range (es.take k)).1
  refine SW.seq_k ?_
  intro K4 hK4
  refine SW.region _ _ _ _ ?_
  refine RL.st ?_
  refine NV.p T ?_
  refine RL.nil _ _ _ _ ?_
  refine hK4 _ _ _ ?_
  refine SW.seq_k ?_
  intro K5 hK5
  refine SW.cond rfl (fun hc0 => ?_) (fun hc0 => ?_)
  ·try simp only [decide_eq_true_eq, decide_eq_false_iff_not, Bool.not_eq_true', Bool.not_eq_false', Int.not_lt, Int.not_le, Int.toNat_natCast] at hc0
   first
    | (exfalso; clear hK5 K5; clear hK4 K4; clear hK3 K3; clear hK2 K2; clear hK1 K1; clear hK0 K0; first | omega | contradiction)
    | (
     refine SW.skip ?_
     refine hK5 _ _ _ ?_
     refine SW.seq_k ?_
     intro K6 hK6
     refine SW.block ?_
     refine SW.seq_k ?_
     intro K7 hK7
     refine SW.region _ _ _ _ ?_
     refine RL.st ?_
     refine NV.p T ?_
     refine RL.st ?_
     first
       | refine NV.index_array T rfl rfl rfl rfl rfl (by omega) (by omega) ?_
       | refine NV.index_slice T rfl rfl rfl rfl rfl (by repeat first | exact hR | apply Rd.cons | apply Rd.app) (by omega) (by omega) ?_
     refine RL.st ?_
     refine NV.load_elem T rfl rfl rfl rfl (by repeat first | exact hR | apply Rd.cons | apply Rd.app) (by first | exact map_get _ _ (by omega) | assumption) ?_
     refine RL.st ?_
     refine NV.p T ?_
     refine RL.st ?_
     refine NV.p T ?_
     refine RL.nil _ _ _ _ ?_
     refine hK7 _ _ _ ?_
     refine SW.seq_k ?_
     intro K8 hK8
     refine SW.region _ _ _ _ ?_
     refine RL.st ?_
     refine NV.call rfl rfl rfl fun23 rfl rfl (sfull b5_0 _ _ _ (by repeat first | exact At.head _ _ | apply At.tail | apply At.app)) ?_
     rintro _ _ ⟨rfl, e⟩; obtain rfl := e.symm
     refine RL.st ?_
     refine NV.p T ?_
     refine RL.nil _ _ _ _ ?_
     refine hK8 _ _ _ ?_
     refine SW.seq_k ?_
     intro K9 hK9
     refine SW.seq_k ?_
     intro K10 hK10
     refine SW.region _ _ _ _ ?_
     refine RL.st ?_
     refine NV.p T ?_
     refine RL.st ?_
     refine NV.p T ?_
     refine RL.split 18 rfl (fun hs0 => ?_) (fun hs0 => ?_)
     ·try simp only [decide_eq_true_eq, decide_eq_false_iff_not, Bool.not_eq_true', Bool.not_eq_false', Int.not_lt, Int.not_le, Int.toNat_natCast] at hs0
      first
       | (exfalso; clear hK10 K10; clear hK9 K9; clear hK8 K8; clear hK7 K7; clear hK6 K6; clear hK5 K5; clear hK4 K4; clear hK3 K3; clear hK2 K2; clear hK1 K1; clear hK0 K0; first | omega | contradiction)
       | (
        refine RL.st ?_
        refine NV.p T ?_
        refine RL.st ?_
        refine NV.p T ?_
        refine RL.st ?_
        refine NV.lv1 T ?_
        refine RL.st ?_
        refine NV.p T ?_
        refine RL.st ?_
        refine NV.p T ?_
        refine RL.nil _ _ _ _ ?_
        refine hK10 _ _ _ ?_
        refine SW.cond rfl (fun hc1 => ?_) (fun hc1 => ?_)
        ·try simp only [decide_eq_true_eq, decide_eq_false_iff_not, Bool.not_eq_true', Bool.not_eq_false', Int.not_lt, Int.not_le, Int.toNat_natCast] at hc1
         first
          | (exfalso; clear hK10 K10; clear hK9 K9; clear hK8 K8; clear hK7 K7; clear hK6 K6; clear hK5 K5; clear hK4 K4; clear hK3 K3; clear hK2 K2; clear hK1 K1; clear hK0 K0; first | omega | contradiction)
          | (
           refine SW.seq_k ?_
           intro K11 hK11
           refine SW.region _ _ _ _ ?_
           refine RL.st ?_
           refine NV.p T ?_
           refine RL.nil _ _ _ _ ?_
           refine hK11 _ _ _ ?_
           refine SW.ret ?_
           refine retQ.ret (H' := (.row sr L cr 5 1 (o.map (.int .u8)) :: .var bl 4 [.bool d] :: .var bn 3 [.int .i64 q] :: .var bo 22 [.slice sr L cr] :: H)) (RVs.tmp (by conv => lhs; whnf) RVs.nil) (fun w hw => Sat.sub (by repeat first | exact List.Sublist.refl _ | apply List.Sublist.cons_cons | apply List.Sublist.cons | exact List.sublist_append_right _ _ | refine List.Sublist.trans ?_ (List.sublist_append_right _ _)) hw) ?_
           clear hK11 K11 hK10 K10 hK9 K9 hK8 K8 hK7 K7 hK6 K6 hK5 K5 hK4 K4 hK3 K3 hK2 K2 hK1 K1 hK0 K0
           first
             | (have h := hI.done (by omega)
                rw [hg] at h
                obtain ⟨rfl, rfl, rfl⟩ : o' = o ∧ q' = q ∧ d' = d := by simpa using h
                obtain rfl := hL
                exact ⟨rfl, sr, cr, rfl⟩)
             | (exfalso; have h := hI.bad (by omega) (by omega) (by omega); rw [hg] at h; cases h)
           )
        ·try simp only [decide_eq_true_eq, decide_eq_false_iff_not, Bool.not_eq_true', Bool.not_eq_false', Int.not_lt, Int.not_le, Int.toNat_natCast] at hc1
         first
          | (exfalso; clear hK10 K10; clear hK9 K9; clear hK8 K8; clear hK7 K7; clear hK6 K6; clear hK5 K5; clear hK4 K4; clear hK3 K3; clear hK2 K2; clear hK1 K1; clear hK0 K0; first | omega | contradiction)
          | (
           refine SW.skip ?_
           refine hK9 _ _ _ ?_
           refine SW.seq_k ?_
           intro K12 hK12
           refine SW.region _ _ _ _ ?_
           refine RL.st ?_
           refine NV.p T ?_
           refine RL.st ?_
           refine NV.call rfl rfl rfl fun24 rfl rfl (ssee b5_0 _ _ (es.getD k 0) (by omega) (by omega) _ (by repeat first | exact At.head _ _ | apply At.tail | apply At.app)) ?_
           rintro _ _ e; obtain rfl := e.symm
           refine RL.nil _ _ _ _ ?_
           refine hK12 _ _ _ ?_
           refine SW.seq_k ?_
           intro K13 hK13
           refine SW.region _ _ _ _ ?_
           refine RL.st ?_
           refine NV.p T ?_
           refine RL.st ?_
           refine NV.p T ?_
           refine RL.st ?_
           refine NV.p T ?_
           refine RL.st ?_
           refine NV.p T ?_
           refine RL.st ?_
           refine NV.call rfl rfl rfl fun35 rfl rfl (SC.enter Try.func35 rfl (Nat.le_of_ble_eq_true rfl) ?_) (fun _ _ h => h)
           refine SW.seq_k ?_
           intro Ki1_0 hKi1_0
           refine SW.region _ _ _ _ ?_
           refine RL.st ?_
           refine NV.p T ?_
           refine RL.nil _ _ _ _ ?_
           refine hKi1_0 _ _ _ ?_
           refine SW.seq_k ?_
           intro Ki1_1 hKi1_1
           refine SW.region _ _ _ _ ?_
           refine RL.st ?_
           refine NV.p T ?_
           refine RL.st ?_
           first
             | refine NV.store_var1 T rfl rfl rfl rfl (by conv => lhs; whnf) rfl (by repeat first | exact At.head _ _ | assumption | exact At.put (by assumption) _ | apply At.tail | apply At.app) rfl rfl ?_
             | refine NV.store_var T rfl rfl rfl (by exact (rfl : _ = [_])) rfl rfl (by repeat first | exact At.head _ _ | assumption | exact At.put (by assumption) _ | apply At.tail | apply At.app) (Nat.le_of_ble_eq_true rfl) rfl ?_
             | refine NV.store_elem T rfl rfl rfl rfl (by conv => lhs; whnf) rfl (by repeat first | exact At.head _ _ | assumption | exact At.put (by assumption) _ | apply At.tail | apply At.app) (by omega) ?_
           refine RL.nil _ _ _ _ ?_
           refine hKi1_1 _ _ _ ?_
           refine SW.seq_k ?_
           intro Ki1_2 hKi1_2
           refine SW.seq_k ?_
           intro Ki1_3 hKi1_3
           refine SW.region _ _ _ _ ?_
           refine RL.st ?_
           refine NV.p T ?_
           refine RL.nil _ _ _ _ ?_
           refine hKi1_3 _ _ _ ?_
           refine SW.cond rfl (fun hci1_0 => ?_) (fun hci1_0 => ?_)
           ·try simp only [decide_eq_true_eq, decide_eq_false_iff_not, Bool.not_eq_true', Bool.not_eq_false', Int.not_lt, Int.not_le, Int.toNat_natCast] at hci1_0
            first
             | (exfalso; clear hKi1_3 Ki1_3; clear hKi1_2 Ki1_2; clear hKi1_1 Ki1_1; clear hKi1_0 Ki1_0; first | omega | contradiction)
             | (
              refine SW.region _ _ _ _ ?_
              refine RL.st ?_
              first
                | refine NV.lv1 T ?_
                | refine NV.load_elem T rfl rfl rfl rfl (by repeat first | exact hR | apply Rd.cons | apply Rd.app) (by first | exact map_get _ _ (by omega) | assumption) ?_
              refine RL.st ?_
              first | refine NV.arith rfl rfl rfl rfl (by omega) (by omega) ?_ | refine NV.p T ?_
              refine RL.st ?_
              first
                | refine NV.store_var1 T rfl rfl rfl rfl (by conv => lhs; whnf) rfl (by repeat first | exact At.head _ _ | assumption | exact At.put (by assumption) _ | apply At.tail | apply At.app) rfl rfl ?_
                | refine NV.store_var T rfl rfl rfl (by exact (rfl : _ = [_])) rfl rfl (by repeat first | exact At.head _ _ | assumption | exact At.put (by assumption) _ | apply At.tail | apply At.app) (Nat.le_of_ble_eq_true rfl) rfl ?_
                | refine NV.store_elem T rfl rfl rfl rfl (by conv => lhs; whnf) rfl (by repeat first | exact At.head _ _ | assumption | exact At.put (by assumption) _ | apply At.tail | apply At.app) (by omega) ?_
              refine RL.nil _ _ _ _ ?_
              refine hKi1_2 _ _ _ ?_
              refine SW.seq_k ?_
              intro Ki1_4 hKi1_4
              refine SW.region _ _ _ _ ?_
              refine RL.st ?_
              refine NV.p T ?_
              refine RL.nil _ _ _ _ ?_
              refine hKi1_4 _ _ _ ?_
              refine SW.ret ?_
              refine retQ.ret (RVs.tmp (by conv => lhs; whnf) RVs.nil) (fun w hw => hw) ?_
              refine RL.st ?_
              refine NV.p T ?_
              refine RL.nil _ _ _ _ ?_
              refine hK13 _ _ _ ?_
              refine SW.cond rfl (fun hc2 => ?_) (fun hc2 => ?_)
              ·try simp only [decide_eq_true_eq, decide_eq_false_iff_not, Bool.not_eq_true', Bool.not_eq_false', Int.not_lt, Int.not_le, Int.toNat_natCast] at hc2
               first
                | (exfalso; clear hKi1_4 Ki1_4; clear hKi1_3 Ki1_3; clear hKi1_2 Ki1_2; clear hKi1_1 Ki1_1; clear hKi1_0 Ki1_0; clear hK13 K13; clear hK12 K12; clear hK10 K10; clear hK9 K9; clear hK8 K8; clear hK7 K7; clear hK6 K6; clear hK5 K5; clear hK4 K4; clear hK3 K3; clear hK2 K2; clear hK1 K1; clear hK0 K0; first | omega | contradiction)
                | (
                 refine SW.exit ?_
                 refine hK2 _ _ _ ?_
                 refine SW.seq_k ?_
                 intro K14 hK14
                 refine SW.region _ _ _ _ ?_
                 refine RL.st ?_
                 refine NV.p T ?_
                 refine RL.nil _ _ _ _ ?_
                 refine hK14 _ _ _ ?_
                 refine SW.ret ?_
                 refine retQ.ret (H' := (.row sr L cr 5 1 (o.map (.int .u8)) :: .var bl 4 [.bool d] :: .var bn 3 [.int .i64 q] :: .var bo 22 [.slice sr L cr] :: H)) (RVs.tmp (by conv => lhs; whnf) RVs.nil) (fun w hw => Sat.sub (by repeat first | exact List.Sublist.refl _ | apply List.Sublist.cons_cons | apply List.Sublist.cons | exact List.sublist_append_right _ _ | refine List.Sublist.trans ?_ (List.sublist_append_right _ _)) hw) ?_
                 clear hK14 K14 hKi1_4 Ki1_4 hKi1_3 Ki1_3 hKi1_2 Ki1_2 hKi1_1 Ki1_1 hKi1_0 Ki1_0 hK13 K13 hK12 K12 hK10 K10 hK9 K9 hK8 K8 hK7 K7 hK6 K6 hK5 K5 hK4 K4 hK3 K3 hK2 K2 hK1 K1 hK0 K0
                 first
                   | (have h := hI.done (by omega)
                      rw [hg] at h
                      obtain ⟨rfl, rfl, rfl⟩ : o' = o ∧ q' = q ∧ d' = d := by simpa using h
                      obtain rfl := hL
                      exact ⟨rfl, sr, cr, rfl⟩)
                   | (exfalso; have h := hI.bad (by omega) (by omega) (by omega); rw [hg] at h; cases h)
                 )
              ·try simp only [decide_eq_true_eq, decide_eq_false_iff_not, Bool.not_eq_true', Bool.not_eq_false', Int.not_lt, Int.not_le, Int.toNat_natCast] at hc2
               first
                | (exfalso; clear hKi1_4 Ki1_4; clear hKi1_3 Ki1_3; clear hKi1_2 Ki1_2; clear hKi1_1 Ki1_1; clear hKi1_0 Ki1_0; clear hK13 K13; clear hK12 K12; clear hK10 K10; clear hK9 K9; clear hK8 K8; clear hK7 K7; clear hK6 K6; clear hK5 K5; clear hK4 K4; clear hK3 K3; clear hK2 K2; clear hK1 K1; clear hK0 K0; first | omega | contradiction)
                | (
                 refine SW.skip ?_
                 refine hK6 _ _ _ ?_
                 refine SW.region _ _ _ _ ?_
                 refine RL.st ?_
                 first | refine NV.arith rfl rfl rfl rfl (by omega) (by omega) ?_ | refine NV.p T ?_
                 refine RL.st ?_
                 refine NV.p T ?_
                 refine RL.nil _ _ _ _ ?_
                 first
                   | exact ⟨n - (k + 1), (by omega), k + 1, sr, L, cr, o, q + 1, true, (by rfl), ⟨by omega, ⟨by assumption, hI.stuff (by omega) (by omega) (by omega)⟩⟩, (.cons rfl (.nil (by repeat first | exact Mx.refl | exact Mx.mix | refine Mx.put rfl ?_ | refine Mx.upd rfl ?_ | refine Mx.updl rfl ?_ | refine Mx.fin rfl ?_ | refine Mx.inner rfl ?_ | refine Mx.none ?_))), rfl, (by rw [take_succ (by omega), st_app, decide_eq_true (show (st (es.take k)).2 = 5 by omega)]; rfl)⟩
                   | exact ⟨n - (k + 1), (by omega), k + 1, ai1_0_, L + 1, ci1_0_, o ++ [es.getD k 0], q, false, (by rfl), ⟨by omega, ⟨by simp; omega, hI.see (by omega) (by omega)⟩⟩, (.cons rfl (.nil (by repeat first | exact Mx.refl | exact Mx.mix | refine Mx.put rfl ?_ | refine Mx.upd rfl ?_ | refine Mx.updl rfl ?_ | refine Mx.fin rfl ?_ | refine Mx.inner rfl ?_ | refine Mx.none ?_))), rfl, (by rw [take_succ (by omega), st_app, decide_eq_false (show ¬ (st (es.take k)).2 = 5 by omega)]; simp)⟩
                   | exact ⟨n - (k + 1), (by omega), k + 1, ai2_0_, L + 1, ci2_0_, o ++ [es.getD k 0], q, false, (by rfl), ⟨by omega, ⟨by simp; omega, hI.see (by omega) (by omega)⟩⟩, (.cons rfl (.nil (by repeat first | exact Mx.refl | exact Mx.mix | refine Mx.put rfl ?_ | refine Mx.upd rfl ?_ | refine Mx.updl rfl ?_ | refine Mx.fin rfl ?_ | refine Mx.inner rfl ?_ | refine Mx.none ?_))), rfl, (by rw [take_succ (by omega), st_app, decide_eq_false (show ¬ (st (es.take k)).2 = 5 by omega)]; simp)⟩
                 )
              )
           ·try simp only [decide_eq_true_eq, decide_eq_false_iff_not, Bool.not_eq_true', Bool.not_eq_false', Int.not_lt, Int.not_le, Int.toNat_natCast] at hci1_0
            first
             | (exfalso; clear hKi1_3 Ki1_3; clear hKi1_2 Ki1_2; clear hKi1_1 Ki1_1; clear hKi1_0 Ki1_0; first | omega | contradiction)
             | (
              refine SW.region _ _ _ _ ?_
              refine RL.st ?_
              first
                | refine NV.lv1 T ?_
                | refine NV.load_elem T rfl rfl rfl rfl (by repeat first | exact hR | apply Rd.cons | apply Rd.app) (by first | exact map_get _ _ (by omega) | assumption) ?_
              refine RL.st ?_
              refine NV.p T ?_
              refine RL.st ?_
              refine NV.build1 T rfl (by conv => lhs; whnf) rfl rfl (by conv => lhs; whnf) (by exact (rfl : _ = some [_])) ?_
              intro b16_i1_0
              refine RL.st ?_
              first
                | refine NV.append1 T rfl rfl rfl rfl rfl rfl rfl rfl rfl rfl (by repeat first | exact At.head _ _ | assumption | exact At.put (by assumption) _ | apply At.tail | apply At.app) (ones rfl) (by first | omega | (unfold maxLen; omega)) (by first | omega | (show (_ + _) * 1 ≤ 140737488355328; omega)) ?_
                | refine NV.append T rfl rfl rfl rfl rfl rfl rfl rfl rfl rfl (by repeat first | exact At.head _ _ | assumption | exact At.put (by assumption) _ | apply At.tail | apply At.app) (by assumption) (ones rfl) (by first | omega | (unfold maxLen; omega)) (by first | omega | (show (_ + _) * 1 ≤ 140737488355328; omega)) ?_
              intro ai1_0_ ci1_0_
              refine RL.st ?_
              first
                | refine NV.store_var1 T rfl rfl rfl rfl (by conv => lhs; whnf) rfl (by repeat first | exact At.head _ _ | assumption | exact At.put (by assumption) _ | apply At.tail | apply At.app) rfl rfl ?_
                | refine NV.store_var T rfl rfl rfl (by exact (rfl : _ = [_])) rfl rfl (by repeat first | exact At.head _ _ | assumption | exact At.put (by assumption) _ | apply At.tail | apply At.app) (Nat.le_of_ble_eq_true rfl) rfl ?_
                | refine NV.store_elem T rfl rfl rfl rfl (by conv => lhs; whnf) rfl (by repeat first | exact At.head _ _ | assumption | exact At.put (by assumption) _ | apply At.tail | apply At.app) (by omega) ?_
              refine RL.nil _ _ _ _ ?_
              refine hKi1_2 _ _ _ ?_
              refine SW.seq_k ?_
              intro Ki1_5 hKi1_5
              refine SW.region _ _ _ _ ?_
              refine RL.st ?_
              refine NV.p T ?_
              refine RL.nil _ _ _ _ ?_
              refine hKi1_5 _ _ _ ?_
              refine SW.ret ?_
              refine retQ.ret (RVs.tmp (by conv => lhs; whnf) RVs.nil) (fun w hw => hw) ?_
              refine RL.st ?_
              refine NV.p T ?_
              refine RL.nil _ _ _ _ ?_
              refine hK13 _ _ _ ?_
              refine SW.cond rfl (fun hc3 => ?_) (fun hc3 => ?_)
              ·try simp only [decide_eq_true_eq, decide_eq_false_iff_not, Bool.not_eq_true', Bool.not_eq_false', Int.not_lt, Int.not_le, Int.toNat_natCast] at hc3
               first
                | (exfalso; clear hKi1_5 Ki1_5; clear hKi1_3 Ki1_3; clear hKi1_2 Ki1_2; clear hKi1_1 Ki1_1; clear hKi1_0 Ki1_0; clear hK13 K13; clear hK12 K12; clear hK10 K10; clear hK9 K9; clear hK8 K8; clear hK7 K7; clear hK6 K6; clear hK5 K5; clear hK4 K4; clear hK3 K3; clear hK2 K2; clear hK1 K1; clear hK0 K0; first | omega | contradiction)
                | (
                 refine SW.exit ?_
                 refine hK2 _ _ _ ?_
                 refine SW.seq_k ?_
                 intro K15 hK15
                 refine SW.region _ _ _ _ ?_
                 refine RL.st ?_
                 refine NV.p T ?_
                 refine RL.nil _ _ _ _ ?_
                 refine hK15 _ _ _ ?_
                 refine SW.ret ?_
                 refine retQ.ret (H' := (.row sr L cr 5 1 (o.map (.int .u8)) :: .var bl 4 [.bool d] :: .var bn 3 [.int .i64 q] :: .var bo 22 [.slice sr L cr] :: H)) (RVs.tmp (by conv => lhs; whnf) RVs.nil) (fun w hw => Sat.sub (by repeat first | exact List.Sublist.refl _ | apply List.Sublist.cons_cons | apply List.Sublist.cons | exact List.sublist_append_right _ _ | refine List.Sublist.trans ?_ (List.sublist_append_right _ _)) hw) ?_
                 clear hK15 K15 hKi1_5 Ki1_5 hKi1_3 Ki1_3 hKi1_2 Ki1_2 hKi1_1 Ki1_1 hKi1_0 Ki1_0 hK13 K13 hK12 K12 hK10 K10 hK9 K9 hK8 K8 hK7 K7 hK6 K6 hK5 K5 hK4 K4 hK3 K3 hK2 K2 hK1 K1 hK0 K0
                 first
                   | (have h := hI.done (by omega)
                      rw [hg] at h
                      obtain ⟨rfl, rfl, rfl⟩ : o' = o ∧ q' = q ∧ d' = d := by simpa using h
                      obtain rfl := hL
                      exact ⟨rfl, sr, cr, rfl⟩)
                   | (exfalso; have h := hI.bad (by omega) (by omega) (by omega); rw [hg] at h; cases h)
                 )
              ·try simp only [decide_eq_true_eq, decide_eq_false_iff_not, Bool.not_eq_true', Bool.not_eq_false', Int.not_lt, Int.not_le, Int.toNat_natCast] at hc3
               first
                | (exfalso; clear hKi1_5 Ki1_5; clear hKi1_3 Ki1_3; clear hKi1_2 Ki1_2; clear hKi1_1 Ki1_1; clear hKi1_0 Ki1_0; clear hK13 K13; clear hK12 K12; clear hK10 K10; clear hK9 K9; clear hK8 K8; clear hK7 K7; clear hK6 K6; clear hK5 K5; clear hK4 K4; clear hK3 K3; clear hK2 K2; clear hK1 K1; clear hK0 K0; first | omega | contradiction)
                | (
                 refine SW.skip ?_
                 refine hK6 _ _ _ ?_
                 refine SW.region _ _ _ _ ?_
                 refine RL.st ?_
                 first | refine NV.arith rfl rfl rfl rfl (by omega) (by omega) ?_ | refine NV.p T ?_
                 refine RL.st ?_
                 refine NV.p T ?_
                 refine RL.nil _ _ _ _ ?_
                 first
                   | exact ⟨n - (k + 1), (by omega), k + 1, sr, L, cr, o, q + 1, true, (by rfl), ⟨by omega, ⟨by assumption, hI.stuff (by omega) (by omega) (by omega)⟩⟩, (.cons rfl (.nil (by repeat first | exact Mx.refl | exact Mx.mix | refine Mx.put rfl ?_ | refine Mx.upd rfl ?_ | refine Mx.updl rfl ?_ | refine Mx.fin rfl ?_ | refine Mx.inner rfl ?_ | refine Mx.none ?_))), rfl, (by rw [take_succ (by omega), st_app, decide_eq_true (show (st (es.take k)).2 = 5 by omega)]; rfl)⟩
                   | exact ⟨n - (k + 1), (by omega), k + 1, ai1_0_, L + 1, ci1_0_, o ++ [es.getD k 0], q, false, (by rfl), ⟨by omega, ⟨by simp; omega, hI.see (by omega) (by omega)⟩⟩, (.cons rfl (.nil (by repeat first | exact Mx.refl | exact Mx.mix | refine Mx.put rfl ?_ | refine Mx.upd rfl ?_ | refine Mx.updl rfl ?_ | refine Mx.fin rfl ?_ | refine Mx.inner rfl ?_ | refine Mx.none ?_))), rfl, (by rw [take_succ (by omega), st_app, decide_eq_false (show ¬ (st (es.take k)).2 = 5 by omega)]; simp)⟩
                   | exact ⟨n - (k + 1), (by omega), k + 1, ai2_0_, L + 1, ci2_0_, o ++ [es.getD k 0], q, false, (by rfl), ⟨by omega, ⟨by simp; omega, hI.see (by omega) (by omega)⟩⟩, (.cons rfl (.nil (by repeat first | exact Mx.refl | exact Mx.mix | refine Mx.put rfl ?_ | refine Mx.upd rfl ?_ | refine Mx.updl rfl ?_ | refine Mx.fin rfl ?_ | refine Mx.inner rfl ?_ | refine Mx.none ?_))), rfl, (by rw [take_succ (by omega), st_app, decide_eq_false (show ¬ (st (es.take k)).2 = 5 by omega)]; simp)⟩
                 )
              )
           )
        )
     ·try simp only [decide_eq_true_eq, decide_eq_false_iff_not, Bool.not_eq_true', Bool.not_eq_false', Int.not_lt, Int.not_le, Int.toNat_natCast] at hs0
      first
       | (exfalso; clear hK10 K10; clear hK9 K9; clear hK8 K8; clear hK7 K7; clear hK6 K6; clear hK5 K5; clear hK4 K4; clear hK3 K3; clear hK2 K2; clear hK1 K1; clear hK0 K0; first | omega | contradiction)
       | (
        refine RL.guard_no rfl rfl rfl ?_
        refine RL.guard_no rfl rfl rfl ?_
        refine RL.guard_no rfl rfl rfl ?_
        refine RL.guard_no rfl rfl rfl ?_
        refine RL.st ?_
        refine NV.p T ?_
        refine RL.nil _ _ _ _ ?_
        refine hK10 _ _ _ ?_
        refine SW.cond_f rfl ?_
        refine SW.skip ?_
        refine hK9 _ _ _ ?_
        refine SW.seq_k ?_
        intro K16 hK16
        refine SW.region _ _ _ _ ?_
        refine RL.st ?_
        refine NV.p T ?_
        refine RL.st ?_
        refine NV.call rfl rfl rfl fun24 rfl rfl (ssee b5_0 _ _ (es.getD k 0) (by omega) (by omega) _ (by repeat first | exact At.head _ _ | apply At.tail | apply At.app)) ?_
        rintro _ _ e; obtain rfl := e.symm
        refine RL.nil _ _ _ _ ?_
        refine hK16 _ _ _ ?_
        refine SW.seq_k ?_
        intro K17 hK17
        refine SW.region _ _ _ _ ?_
        refine RL.st ?_
        refine NV.p T ?_
        refine RL.st ?_
        refine NV.p T ?_
        refine RL.st ?_
        refine NV.p T ?_
        refine RL.st ?_
        refine NV.p T ?_
        refine RL.st ?_
        refine NV.call rfl rfl rfl fun35 rfl rfl (SC.enter Try.func35 rfl (Nat.le_of_ble_eq_true rfl) ?_) (fun _ _ h => h)
        refine SW.seq_k ?_
        intro Ki2_0 hKi2_0
        refine SW.region _ _ _ _ ?_
        refine RL.st ?_
        refine NV.p T ?_
        refine RL.nil _ _ _ _ ?_
        refine hKi2_0 _ _ _ ?_
        refine SW.seq_k ?_
        intro Ki2_1 hKi2_1
        refine SW.region _ _ _ _ ?_
        refine RL.st ?_
        refine NV.p T ?_
        refine RL.st ?_
        first
          | refine NV.store_var1 T rfl rfl rfl rfl (by conv => lhs; whnf) rfl (by repeat first | exact At.head _ _ | assumption | exact At.put (by assumption) _ | apply At.tail | apply At.app) rfl rfl ?_
          | refine NV.store_var T rfl rfl rfl (by exact (rfl : _ = [_])) rfl rfl (by repeat first | exact At.head _ _ | assumption | exact At.put (by assumption) _ | apply At.tail | apply At.app) (Nat.le_of_ble_eq_true rfl) rfl ?_
          | refine NV.store_elem T rfl rfl rfl rfl (by conv => lhs; whnf) rfl (by repeat first | exact At.head _ _ | assumption | exact At.put (by assumption) _ | apply At.tail | apply At.app) (by omega) ?_
        refine RL.nil _ _ _ _ ?_
        refine hKi2_1 _ _ _ ?_
        refine SW.seq_k ?_
        intro Ki2_2 hKi2_2
        refine SW.seq_k ?_
        intro Ki2_3 hKi2_3
        refine SW.region _ _ _ _ ?_
        refine RL.st ?_
        refine NV.p T ?_
        refine RL.nil _ _ _ _ ?_
        refine hKi2_3 _ _ _ ?_
        refine SW.cond rfl (fun hci2_0 => ?_) (fun hci2_0 => ?_)
        ·try simp only [decide_eq_true_eq, decide_eq_false_iff_not, Bool.not_eq_true', Bool.not_eq_false', Int.not_lt, Int.not_le, Int.toNat_natCast] at hci2_0
         first
          | (exfalso; clear hKi2_3 Ki2_3; clear hKi2_2 Ki2_2; clear hKi2_1 Ki2_1; clear hKi2_0 Ki2_0; first | omega | contradiction)
          | (
           refine SW.region _ _ _ _ ?_
           refine RL.st ?_
           first
             | refine NV.lv1 T ?_
             | refine NV.load_elem T rfl rfl rfl rfl (by repeat first | exact hR | apply Rd.cons | apply Rd.app) (by first | exact map_get _ _ (by omega) | assumption) ?_
           refine RL.st ?_
           first | refine NV.arith rfl rfl rfl rfl (by omega) (by omega) ?_ | refine NV.p T ?_
           refine RL.st ?_
           first
             | refine NV.store_var1 T rfl rfl rfl rfl (by conv => lhs; whnf) rfl (by repeat first | exact At.head _ _ | assumption | exact At.put (by assumption) _ | apply At.tail | apply At.app) rfl rfl ?_
             | refine NV.store_var T rfl rfl rfl (by exact (rfl : _ = [_])) rfl rfl (by repeat first | exact At.head _ _ | assumption | exact At.put (by assumption) _ | apply At.tail | apply At.app) (Nat.le_of_ble_eq_true rfl) rfl ?_
             | refine NV.store_elem T rfl rfl rfl rfl (by conv => lhs; whnf) rfl (by repeat first | exact At.head _ _ | assumption | exact At.put (by assumption) _ | apply At.tail | apply At.app) (by omega) ?_
           refine RL.nil _ _ _ _ ?_
           refine hKi2_2 _ _ _ ?_
           refine SW.seq_k ?_
           intro Ki2_4 hKi2_4
           refine SW.region _ _ _ _ ?_
           refine RL.st ?_
           refine NV.p T ?_
           refine RL.nil _ _ _ _ ?_
           refine hKi2_4 _ _ _ ?_
           refine SW.ret ?_
           refine retQ.ret (RVs.tmp (by conv => lhs; whnf) RVs.nil) (fun w hw => hw) ?_
           refine RL.st ?_
           refine NV.p T ?_
           refine RL.nil _ _ _ _ ?_
           refine hK17 _ _ _ ?_
           refine SW.cond rfl (fun hc4 => ?_) (fun hc4 => ?_)
           ·try simp only [decide_eq_true_eq, decide_eq_false_iff_not, Bool.not_eq_true', Bool.not_eq_false', Int.not_lt, Int.not_le, Int.toNat_natCast] at hc4
            first
             | (exfalso; clear hKi2_4 Ki2_4; clear hKi2_3 Ki2_3; clear hKi2_2 Ki2_2; clear hKi2_1 Ki2_1; clear hKi2_0 Ki2_0; clear hK17 K17; clear hK16 K16; clear hK10 K10; clear hK9 K9; clear hK8 K8; clear hK7 K7; clear hK6 K6; clear hK5 K5; clear hK4 K4; clear hK3 K3; clear hK2 K2; clear hK1 K1; clear hK0 K0; first | omega | contradiction)
             | (
              refine SW.exit ?_
              refine hK2 _ _ _ ?_
              refine SW.seq_k ?_
              intro K18 hK18
              refine SW.region _ _ _ _ ?_
              refine RL.st ?_
              refine NV.p T ?_
              refine RL.nil _ _ _ _ ?_
              refine hK18 _ _ _ ?_
              refine SW.ret ?_
              refine retQ.ret (H' := (.row sr L cr 5 1 (o.map (.int .u8)) :: .var bl 4 [.bool d] :: .var bn 3 [.int .i64 q] :: .var bo 22 [.slice sr L cr] :: H)) (RVs.tmp (by conv => lhs; whnf) RVs.nil) (fun w hw => Sat.sub (by repeat first | exact List.Sublist.refl _ | apply List.Sublist.cons_cons | apply List.Sublist.cons | exact List.sublist_append_right _ _ | refine List.Sublist.trans ?_ (List.sublist_append_right _ _)) hw) ?_
              clear hK18 K18 hKi2_4 Ki2_4 hKi2_3 Ki2_3 hKi2_2 Ki2_2 hKi2_1 Ki2_1 hKi2_0 Ki2_0 hK17 K17 hK16 K16 hK10 K10 hK9 K9 hK8 K8 hK7 K7 hK6 K6 hK5 K5 hK4 K4 hK3 K3 hK2 K2 hK1 K1 hK0 K0
              first
                | (have h := hI.done (by omega)
                   rw [hg] at h
                   obtain ⟨rfl, rfl, rfl⟩ : o' = o ∧ q' = q ∧ d' = d := by simpa using h
                   obtain rfl := hL
                   exact ⟨rfl, sr, cr, rfl⟩)
                | (exfalso; have h := hI.bad (by omega) (by omega) (by omega); rw [hg] at h; cases h)
              )
           ·try simp only [decide_eq_true_eq, decide_eq_false_iff_not, Bool.not_eq_true', Bool.not_eq_false', Int.not_lt, Int.not_le, Int.toNat_natCast] at hc4
            first
             | (exfalso; clear hKi2_4 Ki2_4; clear hKi2_3 Ki2_3; clear hKi2_2 Ki2_2; clear hKi2_1 Ki2_1; clear hKi2_0 Ki2_0; clear hK17 K17; clear hK16 K16; clear hK10 K10; clear hK9 K9; clear hK8 K8; clear hK7 K7; clear hK6 K6; clear hK5 K5; clear hK4 K4; clear hK3 K3; clear hK2 K2; clear hK1 K1; clear hK0 K0; first | omega | contradiction)
             | (
              refine SW.skip ?_
              refine hK6 _ _ _ ?_
              refine SW.region _ _ _ _ ?_
              refine RL.st ?_
              first | refine NV.arith rfl rfl rfl rfl (by omega) (by omega) ?_ | refine NV.p T ?_
              refine RL.st ?_
              refine NV.p T ?_
              refine RL.nil _ _ _ _ ?_
              first
                | exact ⟨n - (k + 1), (by omega), k + 1, sr, L, cr, o, q + 1, true, (by rfl), ⟨by omega, ⟨by assumption, hI.stuff (by omega) (by omega) (by omega)⟩⟩, (.cons rfl (.nil (by repeat first | exact Mx.refl | exact Mx.mix | refine Mx.put rfl ?_ | refine Mx.upd rfl ?_ | refine Mx.updl rfl ?_ | refine Mx.fin rfl ?_ | refine Mx.inner rfl ?_ | refine Mx.none ?_))), rfl, (by rw [take_succ (by omega), st_app, decide_eq_true (show (st (es.take k)).2 = 5 by omega)]; rfl)⟩
                | exact ⟨n - (k + 1), (by omega), k + 1, ai1_0_, L + 1, ci1_0_, o ++ [es.getD k 0], q, false, (by rfl), ⟨by omega, ⟨by simp; omega, hI.see (by omega) (by omega)⟩⟩, (.cons rfl (.nil (by repeat first | exact Mx.refl | exact Mx.mix | refine Mx.put rfl ?_ | refine Mx.upd rfl ?_ | refine Mx.updl rfl ?_ | refine Mx.fin rfl ?_ | refine Mx.inner rfl ?_ | refine Mx.none ?_))), rfl, (by rw [take_succ (by omega), st_app, decide_eq_false (show ¬ (st (es.take k)).2 = 5 by omega)]; simp)⟩
                | exact ⟨n - (k + 1), (by omega), k + 1, ai2_0_, L + 1, ci2_0_, o ++ [es.getD k 0], q, false, (by rfl), ⟨by omega, ⟨by simp; omega, hI.see (by omega) (by omega)⟩⟩, (.cons rfl (.nil (by repeat first | exact Mx.refl | exact Mx.mix | refine Mx.put rfl ?_ | refine Mx.upd rfl ?_ | refine Mx.updl rfl ?_ | refine Mx.fin rfl ?_ | refine Mx.inner rfl ?_ | refine Mx.none ?_))), rfl, (by rw [take_succ (by omega), st_app, decide_eq_false (show ¬ (st (es.take k)).2 = 5 by omega)]; simp)⟩
              )
           )
        ·try simp only [decide_eq_true_eq, decide_eq_false_iff_not, Bool.not_eq_true', Bool.not_eq_false', Int.not_lt, Int.not_le, Int.toNat_natCast] at hci2_0
         first
          | (exfalso; clear hKi2_3 Ki2_3; clear hKi2_2 Ki2_2; clear hKi2_1 Ki2_1; clear hKi2_0 Ki2_0; first | omega | contradiction)
          | (
           refine SW.region _ _ _ _ ?_
           refine RL.st ?_
           first
             | refine NV.lv1 T ?_
             | refine NV.load_elem T rfl rfl rfl rfl (by repeat first | exact hR | apply Rd.cons | apply Rd.app) (by first | exact map_get _ _ (by omega) | assumption) ?_
           refine RL.st ?_
           refine NV.p T ?_
           refine RL.st ?_
           refine NV.build1 T rfl (by conv => lhs; whnf) rfl rfl (by conv => lhs; whnf) (by exact (rfl : _ = some [_])) ?_
           intro b16_i2_0
           refine RL.st ?_
           first
             | refine NV.append1 T rfl rfl rfl rfl rfl rfl rfl rfl rfl rfl (by repeat first | exact At.head _ _ | assumption | exact At.put (by assumption) _ | apply At.tail | apply At.app) (ones rfl) (by first | omega | (unfold maxLen; omega)) (by first | omega | (show (_ + _) * 1 ≤ 140737488355328; omega)) ?_
             | refine NV.append T rfl rfl rfl rfl rfl rfl rfl rfl rfl rfl (by repeat first | exact At.head _ _ | assumption | exact At.put (by assumption) _ | apply At.tail | apply At.app) (by assumption) (ones rfl) (by first | omega | (unfold maxLen; omega)) (by first | omega | (show (_ + _) * 1 ≤ 140737488355328; omega)) ?_
           intro ai2_0_ ci2_0_
           refine RL.st ?_
           first
             | refine NV.store_var1 T rfl rfl rfl rfl (by conv => lhs; whnf) rfl (by repeat first | exact At.head _ _ | assumption | exact At.put (by assumption) _ | apply At.tail | apply At.app) rfl rfl ?_
             | refine NV.store_var T rfl rfl rfl (by exact (rfl : _ = [_])) rfl rfl (by repeat first | exact At.head _ _ | assumption | exact At.put (by assumption) _ | apply At.tail | apply At.app) (Nat.le_of_ble_eq_true rfl) rfl ?_
             | refine NV.store_elem T rfl rfl rfl rfl (by conv => lhs; whnf) rfl (by repeat first | exact At.head _ _ | assumption | exact At.put (by assumption) _ | apply At.tail | apply At.app) (by omega) ?_
           refine RL.nil _ _ _ _ ?_
           refine hKi2_2 _ _ _ ?_
           refine SW.seq_k ?_
           intro Ki2_5 hKi2_5
           refine SW.region _ _ _ _ ?_
           refine RL.st ?_
           refine NV.p T ?_
           refine RL.nil _ _ _ _ ?_
           refine hKi2_5 _ _ _ ?_
           refine SW.ret ?_
           refine retQ.ret (RVs.tmp (by conv => lhs; whnf) RVs.nil) (fun w hw => hw) ?_
           refine RL.st ?_
           refine NV.p T ?_
           refine RL.nil _ _ _ _ ?_
           refine hK17 _ _ _ ?_
           refine SW.cond rfl (fun hc5 => ?_) (fun hc5 => ?_)
           ·try simp only [decide_eq_true_eq, decide_eq_false_iff_not, Bool.not_eq_true', Bool.not_eq_false', Int.not_lt, Int.not_le, Int.toNat_natCast] at hc5
            first
             | (exfalso; clear hKi2_5 Ki2_5; clear hKi2_3 Ki2_3; clear hKi2_2 Ki2_2; clear hKi2_1 Ki2_1; clear hKi2_0 Ki2_0; clear hK17 K17; clear hK16 K16; clear hK10 K10; clear hK9 K9; clear hK8 K8; clear hK7 K7; clear hK6 K6; clear hK5 K5; clear hK4 K4; clear hK3 K3; clear hK2 K2; clear hK1 K1; clear hK0 K0; first | omega | contradiction)
             | (
              refine SW.exit ?_
              refine hK2 _ _ _ ?_
              refine SW.seq_k ?_
              intro K19 hK19
              refine SW.region _ _ _ _ ?_
              refine RL.st ?_
              refine NV.p T ?_
              refine RL.nil _ _ _ _ ?_
              refine hK19 _ _ _ ?_
              refine SW.ret ?_
              refine retQ.ret (H' := (.row sr L cr 5 1 (o.map (.int .u8)) :: .var bl 4 [.bool d] :: .var bn 3 [.int .i64 q] :: .var bo 22 [.slice sr L cr] :: H)) (RVs.tmp (by conv => lhs; whnf) RVs.nil) (fun w hw => Sat.sub (by repeat first | exact List.Sublist.refl _ | apply List.Sublist.cons_cons | apply List.Sublist.cons | exact List.sublist_append_right _ _ | refine List.Sublist.trans ?_ (List.sublist_append_right _ _)) hw) ?_
              clear hK19 K19 hKi2_5 Ki2_5 hKi2_3 Ki2_3 hKi2_2 Ki2_2 hKi2_1 Ki2_1 hKi2_0 Ki2_0 hK17 K17 hK16 K16 hK10 K10 hK9 K9 hK8 K8 hK7 K7 hK6 K6 hK5 K5 hK4 K4 hK3 K3 hK2 K2 hK1 K1 hK0 K0
              first
                | (have h := hI.done (by omega)
                   rw [hg] at h
                   obtain ⟨rfl, rfl, rfl⟩ : o' = o ∧ q' = q ∧ d' = d := by simpa using h
                   obtain rfl := hL
                   exact ⟨rfl, sr, cr, rfl⟩)
                | (exfalso; have h := hI.bad (by omega) (by omega) (by omega); rw [hg] at h; cases h)
              )
           ·try simp only [decide_eq_true_eq, decide_eq_false_iff_not, Bool.not_eq_true', Bool.not_eq_false', Int.not_lt, Int.not_le, Int.toNat_natCast] at hc5
            first
             | (exfalso; clear hKi2_5 Ki2_5; clear hKi2_3 Ki2_3; clear hKi2_2 Ki2_2; clear hKi2_1 Ki2_1; clear hKi2_0 Ki2_0; clear hK17 K17; clear hK16 K16; clear hK10 K10; clear hK9 K9; clear hK8 K8; clear hK7 K7; clear hK6 K6; clear hK5 K5; clear hK4 K4; clear hK3 K3; clear hK2 K2; clear hK1 K1; clear hK0 K0; first | omega | contradiction)
             | (
              refine SW.skip ?_
              refine hK6 _ _ _ ?_
              refine SW.region _ _ _ _ ?_
              refine RL.st ?_
              first | refine NV.arith rfl rfl rfl rfl (by omega) (by omega) ?_ | refine NV.p T ?_
              refine RL.st ?_
              refine NV.p T ?_
              refine RL.nil _ _ _ _ ?_
              first
                | exact ⟨n - (k + 1), (by omega), k + 1, sr, L, cr, o, q + 1, true, (by rfl), ⟨by omega, ⟨by assumption, hI.stuff (by omega) (by omega) (by omega)⟩⟩, (.cons rfl (.nil (by repeat first | exact Mx.refl | exact Mx.mix | refine Mx.put rfl ?_ | refine Mx.upd rfl ?_ | refine Mx.updl rfl ?_ | refine Mx.fin rfl ?_ | refine Mx.inner rfl ?_ | refine Mx.none ?_))), rfl, (by rw [take_succ (by omega), st_app, decide_eq_true (show (st (es.take k)).2 = 5 by omega)]; rfl)⟩
                | exact ⟨n - (k + 1), (by omega), k + 1, ai1_0_, L + 1, ci1_0_, o ++ [es.getD k 0], q, false, (by rfl), ⟨by omega, ⟨by simp; omega, hI.see (by omega) (by omega)⟩⟩, (.cons rfl (.nil (by repeat first | exact Mx.refl | exact Mx.mix | refine Mx.put rfl ?_ | refine Mx.upd rfl ?_ | refine Mx.updl rfl ?_ | refine Mx.fin rfl ?_ | refine Mx.inner rfl ?_ | refine Mx.none ?_))), rfl, (by rw [take_succ (by omega), st_app, decide_eq_false (show ¬ (st (es.take k)).2 = 5 by omega)]; simp)⟩
                | exact ⟨n - (k + 1), (by omega), k + 1, ai2_0_, L + 1, ci2_0_, o ++ [es.getD k 0], q, false, (by rfl), ⟨by omega, ⟨by simp; omega, hI.see (by omega) (by omega)⟩⟩, (.cons rfl (.nil (by repeat first | exact Mx.refl | exact Mx.mix | refine Mx.put rfl ?_ | refine Mx.upd rfl ?_ | refine Mx.updl rfl ?_ | refine Mx.fin rfl ?_ | refine Mx.inner rfl ?_ | refine Mx.none ?_))), rfl, (by rw [take_succ (by omega), st_app, decide_eq_false (show ¬ (st (es.take k)).2 = 5 by omega)]; simp)⟩
              )
           )
        )
     )
  ·try simp only [decide_eq_true_eq, decide_eq_false_iff_not, Bool.not_eq_true', Bool.not_eq_false', Int.not_lt, Int.not_le, Int.toNat_natCast] at hc0
   first
    | (exfalso; clear hK5 K5; clear hK4 K4; clear hK3 K3; clear hK2 K2; clear hK1 K1; clear hK0 K0; first | omega | contradiction)
    | (
     refine SW.exit ?_
     refine hK2 _ _ _ ?_
     refine SW.seq_k ?_
     intro K20 hK20
     refine SW.region _ _ _ _ ?_
     refine RL.st ?_
     refine NV.p T ?_
     refine RL.nil _ _ _ _ ?_
     refine hK20 _ _ _ ?_
     refine SW.ret ?_
     refine retQ.ret (H' := (.row sr L cr 5 1 (o.map (.int .u8)) :: .var bl 4 [.bool d] :: .var bn 3 [.int .i64 q] :: .var bo 22 [.slice sr L cr] :: H)) (RVs.tmp (by conv => lhs; whnf) RVs.nil) (fun w hw => Sat.sub (by repeat first | exact List.Sublist.refl _ | apply List.Sublist.cons_cons | apply List.Sublist.cons | exact List.sublist_append_right _ _ | refine List.Sublist.trans ?_ (List.sublist_append_right _ _)) hw) ?_
     clear hK20 K20 hK5 K5 hK4 K4 hK3 K3 hK2 K2 hK1 K1 hK0 K0
     first
       | (have h := hI.done (by omega)
          rw [hg] at h
          obtain ⟨rfl, rfl, rfl⟩ : o' = o ∧ q' = q ∧ d' = d := by simpa using h
          obtain rfl := hL
          exact ⟨rfl, sr, cr, rfl⟩)
       | (exfalso; have h := hI.bad (by omega) (by omega) (by omega); rw [hg] at h; cases h)
     )
theorem read_no {w0 : World} {H : List Chunk} (bl bn bo : Nat) (sa : Option Addr) (n c : Nat) (es : List Int) (hR : Rd w0 H sa n c 1 (es.map (.int .u8))) (hn : n = es.length) (hm : n ≤ 140737488351232) (hg : getF [] ([], 0, false) es = none) : SC Try.prog w0 32 #[.slice sa n c, .func (.func 35) #[] #[.pointer (some ⟨bl, 0, none⟩), .pointer (some ⟨bn, 0, none⟩), .pointer (some ⟨bo, 0, none⟩)]] (.row none 0 0 5 1 (([] : List Int).map (.int .u8)) :: .var bl 4 [.bool false] :: .var bn 3 [.int .i64 0] :: .var bo 22 [.slice none 0 0] :: H) (fun v H' => v = .int .i64 4 ∧ ∃ (sr : Option Addr) (L cr : Nat) (o : List Int) (d : Bool) (q : Int), H' = (.row sr L cr 5 1 (o.map (.int .u8)) :: .var bl 4 [.bool d] :: .var bn 3 [.int .i64 q] :: .var bo 22 [.slice sr L cr] :: H)) := by
 refine SC.enter Try.func32 rfl (Nat.le_of_ble_eq_true rfl) ?_
 refine SW.seq_k ?_
 intro K0 hK0
 refine SW.region _ _ _ _ ?_
 refine RL.st ?_
 refine NV.p T ?_
 refine RL.nil _ _ _ _ ?_
 refine hK0 _ _ _ ?_
 refine SW.seq_k ?_
 intro K1 hK1
 refine SW.region _ _ _ _ ?_
 refine RL.st ?_
 refine NV.alloc T rfl rfl rfl (by exact (rfl : _ = [_, _])) ?_
 intro b5_0
 refine RL.nil _ _ _ _ ?_
 refine hK1 _ _ _ ?_
 refine SW.seq_k ?_
 intro K2 hK2
 refine SW.seq_k ?_
 intro K3 hK3
 refine SW.region _ _ _ _ ?_
 refine RL.st ?_
 refine NV.p T ?_
 refine RL.st ?_
 refine NV.p T ?_
 refine RL.st ?_
 refine NV.p T ?_
 refine RL.nil _ _ _ _ ?_
 refine hK3 _ _ _ ?_
 refine SW.block ?_
 refine SW.loopM (fun frB mm fr ds HH => ∃ (k : Nat) (sr : Option Addr) (L cr : Nat) (o : List Int) (q : Int) (d : Bool), mm = n - k ∧ (k ≤ n ∧ (L = o.length ∧ UI es k o q d)) ∧ FrIs [4, 6, 7, 8, 11, 12, 13, 14, 15, 16, 17, 18, 19, 20, 21, 22, 23, 24, 25, 26, 27, 28, 29, 30, 31, 32] frB fr [(11, .int .i64 k)] ∧ ds = [] ∧ HH = (.var b5_0 40 [.int .u8 (st (es.take k)).1, .int .i64 (st (es.take k)).2] :: .row sr L cr 5 1 (o.map (.int .u8)) :: .var bl 4 [.bool d] :: .var bn 3 [.int .i64 q] :: .var bo 22 [.slice sr L cr] :: H)) (n := n - 0) ?_ ?_
 ·exact ⟨0, none, 0, 0, [], 0, false, rfl, ⟨Nat.zero_le _, ⟨rfl, UI.start⟩⟩, (.cons rfl (.nil (by repeat first | exact Mx.refl | exact Mx.mix | refine Mx.put rfl ?_ | refine Mx.upd rfl ?_ | refine Mx.updl rfl ?_ | refine Mx.fin rfl ?_ | refine Mx.inner rfl ?_ | refine Mx.none ?_))), rfl, rfl⟩
 ·rintro mm fr ds HH ⟨k, sr, L, cr, o, q, d, rfl, ⟨hk, ⟨hL, hI⟩⟩, hFr, rfl, eHH⟩
  obtain rfl := eHH.symm
  obtain ⟨frU, rfl⟩ := hFr.eq
  clear hFr
  have hkn := hI.kn
  have hlen := hI.len
  have h5' := hI.r5
  have hq0 := hI.n0
  have hqk := hI.nk
  have hr0 := (st_range (es.take k)).1
  refine SW.seq_k ?_
  intro K4 hK4
  refine SW.region _ _ _ _ ?_
  refine RL.st ?_
  refine NV.p T ?_
  refine RL.nil _ _ _ _ ?_
  refine hK4 _ _ _ ?_
  refine SW.seq_k ?_
  intro K5 hK5
  refine SW.cond rfl (fun hc0 => ?_) (fun hc0 => ?_)
  ·try simp only [decide_eq_true_eq, decide_eq_false_iff_not, Bool.not_eq_true', Bool.not_eq_false', Int.not_lt, Int.not_le, Int.toNat_natCast] at hc0
   first
    | (exfalso; clear hK5 K5; clear hK4 K4; clear hK3 K3; clear hK2 K2; clear hK1 K1; clear hK0 K0; first | omega | contradiction)
    | (
     refine SW.skip ?_
     refine hK5 _ _ _ ?_
     refine SW.seq_k ?_
     intro K6 hK6
     refine SW.block ?_
     refine SW.seq_k ?_
     intro K7 hK7
     refine SW.region _ _ _ _ ?_
     refine RL.st ?_
     refine NV.p T ?_
     refine RL.st ?_
     first
       | refine NV.index_array T rfl rfl rfl rfl rfl (by omega) (by omega) ?_
       | refine NV.index_slice T rfl rfl rfl rfl rfl (by repeat first | exact hR | apply Rd.cons | apply Rd.app) (by omega) (by omega) ?_
     refine RL.st ?_
     refine NV.load_elem T rfl rfl rfl rfl (by repeat first | exact hR | apply Rd.cons | apply Rd.app) (by first | exact map_get _ _ (by omega) | assumption) ?_
     refine RL.st ?_
     refine NV.p T ?_
     refine RL.st ?_
     refine NV.p T ?_
     refine RL.nil _ _ _ _ ?_
     refine hK7 _ _ _ ?_
     refine SW.seq_k ?_
     intro K8 hK8
     refine SW.region _ _ _ _ ?_
     refine RL.st ?_
     refine NV.call rfl rfl rfl fun23 rfl rfl (sfull b5_0 _ _ _ (by repeat first | exact At.head _ _ | apply At.tail | apply At.app)) ?_
     rintro _ _ ⟨rfl, e⟩; obtain rfl := e.symm
     refine RL.st ?_
     refine NV.p T ?_
     refine RL.nil _ _ _ _ ?_
     refine hK8 _ _ _ ?_
     refine SW.seq_k ?_
     intro K9 hK9
     refine SW.seq_k ?_
     intro K10 hK10
     refine SW.region _ _ _ _ ?_
     refine RL.st ?_
     refine NV.p T ?_
     refine RL.st ?_
     refine NV.p T ?_
     refine RL.split 18 rfl (fun hs0 => ?_) (fun hs0 => ?_)
     ·try simp only [decide_eq_true_eq, decide_eq_false_iff_not, Bool.not_eq_true', Bool.not_eq_false', Int.not_lt, Int.not_le, Int.toNat_natCast] at hs0
      first
       | (exfalso; clear hK10 K10; clear hK9 K9; clear hK8 K8; clear hK7 K7; clear hK6 K6; clear hK5 K5; clear hK4 K4; clear hK3 K3; clear hK2 K2; clear hK1 K1; clear hK0 K0; first | omega | contradiction)
       | (
        refine RL.st ?_
        refine NV.p T ?_
        refine RL.st ?_
        refine NV.p T ?_
        refine RL.st ?_
        refine NV.lv1 T ?_
        refine RL.st ?_
        refine NV.p T ?_
        refine RL.st ?_
        refine NV.p T ?_
        refine RL.nil _ _ _ _ ?_
        refine hK10 _ _ _ ?_
        refine SW.cond rfl (fun hc1 => ?_) (fun hc1 => ?_)
        ·try simp only [decide_eq_true_eq, decide_eq_false_iff_not, Bool.not_eq_true', Bool.not_eq_false', Int.not_lt, Int.not_le, Int.toNat_natCast] at hc1
         first
          | (exfalso; clear hK10 K10; clear hK9 K9; clear hK8 K8; clear hK7 K7; clear hK6 K6; clear hK5 K5; clear hK4 K4; clear hK3 K3; clear hK2 K2; clear hK1 K1; clear hK0 K0; first | omega | contradiction)
          | (
           refine SW.seq_k ?_
           intro K11 hK11
           refine SW.region _ _ _ _ ?_
           refine RL.st ?_
           refine NV.p T ?_
           refine RL.nil _ _ _ _ ?_
           refine hK11 _ _ _ ?_
           refine SW.ret ?_
           refine retQ.ret (H' := (.row sr L cr 5 1 (o.map (.int .u8)) :: .var bl 4 [.bool d] :: .var bn 3 [.int .i64 q] :: .var bo 22 [.slice sr L cr] :: H)) (RVs.tmp (by conv => lhs; whnf) RVs.nil) (fun w hw => Sat.sub (by repeat first | exact List.Sublist.refl _ | apply List.Sublist.cons_cons | apply List.Sublist.cons | exact List.sublist_append_right _ _ | refine List.Sublist.trans ?_ (List.sublist_append_right _ _)) hw) ?_
           clear hK11 K11 hK10 K10 hK9 K9 hK8 K8 hK7 K7 hK6 K6 hK5 K5 hK4 K4 hK3 K3 hK2 K2 hK1 K1 hK0 K0
           first
             | exact ⟨rfl, sr, L, cr, o, d, q, rfl⟩
             | (exfalso; have h := hI.done (by omega); rw [hg] at h; cases h)
           )
        ·try simp only [decide_eq_true_eq, decide_eq_false_iff_not, Bool.not_eq_true', Bool.not_eq_false', Int.not_lt, Int.not_le, Int.toNat_natCast] at hc1
         first
          | (exfalso; clear hK10 K10; clear hK9 K9; clear hK8 K8; clear hK7 K7; clear hK6 K6; clear hK5 K5; clear hK4 K4; clear hK3 K3; clear hK2 K2; clear hK1 K1; clear hK0 K0; first | omega | contradiction)
          | (
           refine SW.skip ?_
           refine hK9 _ _ _ ?_
           refine SW.seq_k ?_
           intro K12 hK12
           refine SW.region _ _ _ _ ?_
           refine RL.st ?_
           refine NV.p T ?_
           refine RL.st ?_
           refine NV.call rfl rfl rfl fun24 rfl rfl (ssee b5_0 _ _ (es.getD k 0) (by omega) (by omega) _ (by repeat first | exact At.head _ _ | apply At.tail | apply At.app)) ?_
           rintro _ _ e; obtain rfl := e.symm
           refine RL.nil _ _ _ _ ?_
           refine hK12 _ _ _ ?_
           refine SW.seq_k ?_
           intro K13 hK13
           refine SW.region _ _ _ _ ?_
           refine RL.st ?_
           refine NV.p T ?_
           refine RL.st ?_
           refine NV.p T ?_
           refine RL.st ?_
           refine NV.p T ?_
           refine RL.st ?_
           refine NV.p T ?_
           refine RL.st ?_
           refine NV.call rfl rfl rfl fun35 rfl rfl (SC.enter Try.func35 rfl (Nat.le_of_ble_eq_true rfl) ?_) (fun _ _ h => h)
           refine SW.seq_k ?_
           intro Ki1_0 hKi1_0
           refine SW.region _ _ _ _ ?_
           refine RL.st ?_
           refine NV.p T ?_
           refine RL.nil _ _ _ _ ?_
           refine hKi1_0 _ _ _ ?_
           refine SW.seq_k ?_
           intro Ki1_1 hKi1_1
           refine SW.region _ _ _ _ ?_
           refine RL.st ?_
           refine NV.p T ?_
           refine RL.st ?_
           first
             | refine NV.store_var1 T rfl rfl rfl rfl (by conv => lhs; whnf) rfl (by repeat first | exact At.head _ _ | assumption | exact At.put (by assumption) _ | apply At.tail | apply At.app) rfl rfl ?_
             | refine NV.store_var T rfl rfl rfl (by exact (rfl : _ = [_])) rfl rfl (by repeat first | exact At.head _ _ | assumption | exact At.put (by assumption) _ | apply At.tail | apply At.app) (Nat.le_of_ble_eq_true rfl) rfl ?_
             | refine NV.store_elem T rfl rfl rfl rfl (by conv => lhs; whnf) rfl (by repeat first | exact At.head _ _ | assumption | exact At.put (by assumption) _ | apply At.tail | apply At.app) (by omega) ?_
           refine RL.nil _ _ _ _ ?_
           refine hKi1_1 _ _ _ ?_
           refine SW.seq_k ?_
           intro Ki1_2 hKi1_2
           refine SW.seq_k ?_
           intro Ki1_3 hKi1_3
           refine SW.region _ _ _ _ ?_
           refine RL.st ?_
           refine NV.p T ?_
           refine RL.nil _ _ _ _ ?_
           refine hKi1_3 _ _ _ ?_
           refine SW.cond rfl (fun hci1_0 => ?_) (fun hci1_0 => ?_)
           ·try simp only [decide_eq_true_eq, decide_eq_false_iff_not, Bool.not_eq_true', Bool.not_eq_false', Int.not_lt, Int.not_le, Int.toNat_natCast] at hci1_0
            first
             | (exfalso; clear hKi1_3 Ki1_3; clear hKi1_2 Ki1_2; clear hKi1_1 Ki1_1; clear hKi1_0 Ki1_0; first | omega | contradiction)
             | (
              refine SW.region _ _ _ _ ?_
              refine RL.st ?_
              first
                | refine NV.lv1 T ?_
                | refine NV.load_elem T rfl rfl rfl rfl (by repeat first | exact hR | apply Rd.cons | apply Rd.app) (by first | exact map_get _ _ (by omega) | assumption) ?_
              refine RL.st ?_
              first | refine NV.arith rfl rfl rfl rfl (by omega) (by omega) ?_ | refine NV.p T ?_
              refine RL.st ?_
              first
                | refine NV.store_var1 T rfl rfl rfl rfl (by conv => lhs; whnf) rfl (by repeat first | exact At.head _ _ | assumption | exact At.put (by assumption) _ | apply At.tail | apply At.app) rfl rfl ?_
                | refine NV.store_var T rfl rfl rfl (by exact (rfl : _ = [_])) rfl rfl (by repeat first | exact At.head _ _ | assumption | exact At.put (by assumption) _ | apply At.tail | apply At.app) (Nat.le_of_ble_eq_true rfl) rfl ?_
                | refine NV.store_elem T rfl rfl rfl rfl (by conv => lhs; whnf) rfl (by repeat first | exact At.head _ _ | assumption | exact At.put (by assumption) _ | apply At.tail | apply At.app) (by omega) ?_
              refine RL.nil _ _ _ _ ?_
              refine hKi1_2 _ _ _ ?_
              refine SW.seq_k ?_
              intro Ki1_4 hKi1_4
              refine SW.region _ _ _ _ ?_
              refine RL.st ?_
              refine NV.p T ?_
              refine RL.nil _ _ _ _ ?_
              refine hKi1_4 _ _ _ ?_
              refine SW.ret ?_
              refine retQ.ret (RVs.tmp (by conv => lhs; whnf) RVs.nil) (fun w hw => hw) ?_
              refine RL.st ?_
              refine NV.p T ?_
              refine RL.nil _ _ _ _ ?_
              refine hK13 _ _ _ ?_
              refine SW.cond rfl (fun hc2 => ?_) (fun hc2 => ?_)
              ·try simp only [decide_eq_true_eq, decide_eq_false_iff_not, Bool.not_eq_true', Bool.not_eq_false', Int.not_lt, Int.not_le, Int.toNat_natCast] at hc2
               first
                | (exfalso; clear hKi1_4 Ki1_4; clear hKi1_3 Ki1_3; clear hKi1_2 Ki1_2; clear hKi1_1 Ki1_1; clear hKi1_0 Ki1_0; clear hK13 K13; clear hK12 K12; clear hK10 K10; clear hK9 K9; clear hK8 K8; clear hK7 K7; clear hK6 K6; clear hK5 K5; clear hK4 K4; clear hK3 K3; clear hK2 K2; clear hK1 K1; clear hK0 K0; first | omega | contradiction)
                | (
                 refine SW.exit ?_
                 refine hK2 _ _ _ ?_
                 refine SW.seq_k ?_
                 intro K14 hK14
                 refine SW.region _ _ _ _ ?_
                 refine RL.st ?_
                 refine NV.p T ?_
                 refine RL.nil _ _ _ _ ?_
                 refine hK14 _ _ _ ?_
                 refine SW.ret ?_
                 refine retQ.ret (H' := (.row sr L cr 5 1 (o.map (.int .u8)) :: .var bl 4 [.bool d] :: .var bn 3 [.int .i64 q] :: .var bo 22 [.slice sr L cr] :: H)) (RVs.tmp (by conv => lhs; whnf) RVs.nil) (fun w hw => Sat.sub (by repeat first | exact List.Sublist.refl _ | apply List.Sublist.cons_cons | apply List.Sublist.cons | exact List.sublist_append_right _ _ | refine List.Sublist.trans ?_ (List.sublist_append_right _ _)) hw) ?_
                 clear hK14 K14 hKi1_4 Ki1_4 hKi1_3 Ki1_3 hKi1_2 Ki1_2 hKi1_1 Ki1_1 hKi1_0 Ki1_0 hK13 K13 hK12 K12 hK10 K10 hK9 K9 hK8 K8 hK7 K7 hK6 K6 hK5 K5 hK4 K4 hK3 K3 hK2 K2 hK1 K1 hK0 K0
                 first
                   | exact ⟨rfl, sr, L, cr, o, d, q, rfl⟩
                   | (exfalso; have h := hI.done (by omega); rw [hg] at h; cases h)
                 )
              ·try simp only [decide_eq_true_eq, decide_eq_false_iff_not, Bool.not_eq_true', Bool.not_eq_false', Int.not_lt, Int.not_le, Int.toNat_natCast] at hc2
               first
                | (exfalso; clear hKi1_4 Ki1_4; clear hKi1_3 Ki1_3; clear hKi1_2 Ki1_2; clear hKi1_1 Ki1_1; clear hKi1_0 Ki1_0; clear hK13 K13; clear hK12 K12; clear hK10 K10; clear hK9 K9; clear hK8 K8; clear hK7 K7; clear hK6 K6; clear hK5 K5; clear hK4 K4; clear hK3 K3; clear hK2 K2; clear hK1 K1; clear hK0 K0; first | omega | contradiction)
                | (
                 refine SW.skip ?_
                 refine hK6 _ _ _ ?_
                 refine SW.region _ _ _ _ ?_
                 refine RL.st ?_
                 first | refine NV.arith rfl rfl rfl rfl (by omega) (by omega) ?_ | refine NV.p T ?_
                 refine RL.st ?_
                 refine NV.p T ?_
                 refine RL.nil _ _ _ _ ?_
                 first
                   | exact ⟨n - (k + 1), (by omega), k + 1, sr, L, cr, o, q + 1, true, (by rfl), ⟨by omega, ⟨by assumption, hI.stuff (by omega) (by omega) (by omega)⟩⟩, (.cons rfl (.nil (by repeat first | exact Mx.refl | exact Mx.mix | refine Mx.put rfl ?_ | refine Mx.upd rfl ?_ | refine Mx.updl rfl ?_ | refine Mx.fin rfl ?_ | refine Mx.inner rfl ?_ | refine Mx.none ?_))), rfl, (by rw [take_succ (by omega), st_app, decide_eq_true (show (st (es.take k)).2 = 5 by omega)]; rfl)⟩
                   | exact ⟨n - (k + 1), (by omega), k + 1, ai1_0_, L + 1, ci1_0_, o ++ [es.getD k 0], q, false, (by rfl), ⟨by omega, ⟨by simp; omega, hI.see (by omega) (by omega)⟩⟩, (.cons rfl (.nil (by repeat first | exact Mx.refl | exact Mx.mix | refine Mx.put rfl ?_ | refine Mx.upd rfl ?_ | refine Mx.updl rfl ?_ | refine Mx.fin rfl ?_ | refine Mx.inner rfl ?_ | refine Mx.none ?_))), rfl, (by rw [take_succ (by omega), st_app, decide_eq_false (show ¬ (st (es.take k)).2 = 5 by omega)]; simp)⟩
                   | exact ⟨n - (k + 1), (by omega), k + 1, ai2_0_, L + 1, ci2_0_, o ++ [es.getD k 0], q, false, (by rfl), ⟨by omega, ⟨by simp; omega, hI.see (by omega) (by omega)⟩⟩, (.cons rfl (.nil (by repeat first | exact Mx.refl | exact Mx.mix | refine Mx.put rfl ?_ | refine Mx.upd rfl ?_ | refine Mx.updl rfl ?_ | refine Mx.fin rfl ?_ | refine Mx.inner rfl ?_ | refine Mx.none ?_))), rfl, (by rw [take_succ (by omega), st_app, decide_eq_false (show ¬ (st (es.take k)).2 = 5 by omega)]; simp)⟩
                 )
              )
           ·try simp only [decide_eq_true_eq, decide_eq_false_iff_not, Bool.not_eq_true', Bool.not_eq_false', Int.not_lt, Int.not_le, Int.toNat_natCast] at hci1_0
            first
             | (exfalso; clear hKi1_3 Ki1_3; clear hKi1_2 Ki1_2; clear hKi1_1 Ki1_1; clear hKi1_0 Ki1_0; first | omega | contradiction)
             | (
              refine SW.region _ _ _ _ ?_
              refine RL.st ?_
              first
                | refine NV.lv1 T ?_
                | refine NV.load_elem T rfl rfl rfl rfl (by repeat first | exact hR | apply Rd.cons | apply Rd.app) (by first | exact map_get _ _ (by omega) | assumption) ?_
              refine RL.st ?_
              refine NV.p T ?_
              refine RL.st ?_
              refine NV.build1 T rfl (by conv => lhs; whnf) rfl rfl (by conv => lhs; whnf) (by exact (rfl : _ = some [_])) ?_
              intro b16_i1_0
              refine RL.st ?_
              first
                | refine NV.append1 T rfl rfl rfl rfl rfl rfl rfl rfl rfl rfl (by repeat first | exact At.head _ _ | assumption | exact At.put (by assumption) _ | apply At.tail | apply At.app) (ones rfl) (by first | omega | (unfold maxLen; omega)) (by first | omega | (show (_ + _) * 1 ≤ 140737488355328; omega)) ?_
                | refine NV.append T rfl rfl rfl rfl rfl rfl rfl rfl rfl rfl (by repeat first | exact At.head _ _ | assumption | exact At.put (by assumption) _ | apply At.tail | apply At.app) (by assumption) (ones rfl) (by first | omega | (unfold maxLen; omega)) (by first | omega | (show (_ + _) * 1 ≤ 140737488355328; omega)) ?_
              intro ai1_0_ ci1_0_
              refine RL.st ?_
              first
                | refine NV.store_var1 T rfl rfl rfl rfl (by conv => lhs; whnf) rfl (by repeat first | exact At.head _ _ | assumption | exact At.put (by assumption) _ | apply At.tail | apply At.app) rfl rfl ?_
                | refine NV.store_var T rfl rfl rfl (by exact (rfl : _ = [_])) rfl rfl (by repeat first | exact At.head _ _ | assumption | exact At.put (by assumption) _ | apply At.tail | apply At.app) (Nat.le_of_ble_eq_true rfl) rfl ?_
                | refine NV.store_elem T rfl rfl rfl rfl (by conv => lhs; whnf) rfl (by repeat first | exact At.head _ _ | assumption | exact At.put (by assumption) _ | apply At.tail | apply At.app) (by omega) ?_
              refine RL.nil _ _ _ _ ?_
              refine hKi1_2 _ _ _ ?_
              refine SW.seq_k ?_
              intro Ki1_5 hKi1_5
              refine SW.region _ _ _ _ ?_
              refine RL.st ?_
              refine NV.p T ?_
              refine RL.nil _ _ _ _ ?_
              refine hKi1_5 _ _ _ ?_
              refine SW.ret ?_
              refine retQ.ret (RVs.tmp (by conv => lhs; whnf) RVs.nil) (fun w hw => hw) ?_
              refine RL.st ?_
              refine NV.p T ?_
              refine RL.nil _ _ _ _ ?_
              refine hK13 _ _ _ ?_
              refine SW.cond rfl (fun hc3 => ?_) (fun hc3 => ?_)
              ·try simp only [decide_eq_true_eq, decide_eq_false_iff_not, Bool.not_eq_true', Bool.not_eq_false', Int.not_lt, Int.not_le, Int.toNat_natCast] at hc3
               first
                | (exfalso; clear hKi1_5 Ki1_5; clear hKi1_3 Ki1_3; clear hKi1_2 Ki1_2; clear hKi1_1 Ki1_1; clear hKi1_0 Ki1_0; clear hK13 K13; clear hK12 K12; clear hK10 K10; clear hK9 K9; clear hK8 K8; clear hK7 K7; clear hK6 K6; clear hK5 K5; clear hK4 K4; clear hK3 K3; clear hK2 K2; clear hK1 K1; clear hK0 K0; first | omega | contradiction)
                | (
                 refine SW.exit ?_
                 refine hK2 _ _ _ ?_
                 refine SW.seq_k ?_
                 intro K15 hK15
                 refine SW.region _ _ _ _ ?_
                 refine RL.st ?_
                 refine NV.p T ?_
                 refine RL.nil _ _ _ _ ?_
                 refine hK15 _ _ _ ?_
                 refine SW.ret ?_
                 refine retQ.ret (H' := (.row sr L cr 5 1 (o.map (.int .u8)) :: .var bl 4 [.bool d] :: .var bn 3 [.int .i64 q] :: .var bo 22 [.slice sr L cr] :: H)) (RVs.tmp (by conv => lhs; whnf) RVs.nil) (fun w hw => Sat.sub (by repeat first | exact List.Sublist.refl _ | apply List.Sublist.cons_cons | apply List.Sublist.cons | exact List.sublist_append_right _ _ | refine List.Sublist.trans ?_ (List.sublist_append_right _ _)) hw) ?_
                 clear hK15 K15 hKi1_5 Ki1_5 hKi1_3 Ki1_3 hKi1_2 Ki1_2 hKi1_1 Ki1_1 hKi1_0 Ki1_0 hK13 K13 hK12 K12 hK10 K10 hK9 K9 hK8 K8 hK7 K7 hK6 K6 hK5 K5 hK4 K4 hK3 K3 hK2 K2 hK1 K1 hK0 K0
                 first
                   | exact ⟨rfl, sr, L, cr, o, d, q, rfl⟩
                   | (exfalso; have h := hI.done (by omega); rw [hg] at h; cases h)
                 )
              ·try simp only [decide_eq_true_eq, decide_eq_false_iff_not, Bool.not_eq_true', Bool.not_eq_false', Int.not_lt, Int.not_le, Int.toNat_natCast] at hc3
               first
                | (exfalso; clear hKi1_5 Ki1_5; clear hKi1_3 Ki1_3; clear hKi1_2 Ki1_2; clear hKi1_1 Ki1_1; clear hKi1_0 Ki1_0; clear hK13 K13; clear hK12 K12; clear hK10 K10; clear hK9 K9; clear hK8 K8; clear hK7 K7; clear hK6 K6; clear hK5 K5; clear hK4 K4; clear hK3 K3; clear hK2 K2; clear hK1 K1; clear hK0 K0; first | omega | contradiction)
                | (
                 refine SW.skip ?_
                 refine hK6 _ _ _ ?_
                 refine SW.region _ _ _ _ ?_
                 refine RL.st ?_
                 first | refine NV.arith rfl rfl rfl rfl (by omega) (by omega) ?_ | refine NV.p T ?_
                 refine RL.st ?_
                 refine NV.p T ?_
                 refine RL.nil _ _ _ _ ?_
                 first
                   | exact ⟨n - (k + 1), (by omega), k + 1, sr, L, cr, o, q + 1, true, (by rfl), ⟨by omega, ⟨by assumption, hI.stuff (by omega) (by omega) (by omega)⟩⟩, (.cons rfl (.nil (by repeat first | exact Mx.refl | exact Mx.mix | refine Mx.put rfl ?_ | refine Mx.upd rfl ?_ | refine Mx.updl rfl ?_ | refine Mx.fin rfl ?_ | refine Mx.inner rfl ?_ | refine Mx.none ?_))), rfl, (by rw [take_succ (by omega), st_app, decide_eq_true (show (st (es.take k)).2 = 5 by omega)]; rfl)⟩
                   | exact ⟨n - (k + 1), (by omega), k + 1, ai1_0_, L + 1, ci1_0_, o ++ [es.getD k 0], q, false, (by rfl), ⟨by omega, ⟨by simp; omega, hI.see (by omega) (by omega)⟩⟩, (.cons rfl (.nil (by repeat first | exact Mx.refl | exact Mx.mix | refine Mx.put rfl ?_ | refine Mx.upd rfl ?_ | refine Mx.updl rfl ?_ | refine Mx.fin rfl ?_ | refine Mx.inner rfl ?_ | refine Mx.none ?_))), rfl, (by rw [take_succ (by omega), st_app, decide_eq_false (show ¬ (st (es.take k)).2 = 5 by omega)]; simp)⟩
                   | exact ⟨n - (k + 1), (by omega), k + 1, ai2_0_, L + 1, ci2_0_, o ++ [es.getD k 0], q, false, (by rfl), ⟨by omega, ⟨by simp; omega, hI.see (by omega) (by omega)⟩⟩, (.cons rfl (.nil (by repeat first | exact Mx.refl | exact Mx.mix | refine Mx.put rfl ?_ | refine Mx.upd rfl ?_ | refine Mx.updl rfl ?_ | refine Mx.fin rfl ?_ | refine Mx.inner rfl ?_ | refine Mx.none ?_))), rfl, (by rw [take_succ (by omega), st_app, decide_eq_false (show ¬ (st (es.take k)).2 = 5 by omega)]; simp)⟩
                 )
              )
           )
        )
     ·try simp only [decide_eq_true_eq, decide_eq_false_iff_not, Bool.not_eq_true', Bool.not_eq_false', Int.not_lt, Int.not_le, Int.toNat_natCast] at hs0
      first
       | (exfalso; clear hK10 K10; clear hK9 K9; clear hK8 K8; clear hK7 K7; clear hK6 K6; clear hK5 K5; clear hK4 K4; clear hK3 K3; clear hK2 K2; clear hK1 K1; clear hK0 K0; first | omega | contradiction)
       | (
        refine RL.guard_no rfl rfl rfl ?_
        refine RL.guard_no rfl rfl rfl ?_
        refine RL.guard_no rfl rfl rfl ?_
        refine RL.guard_no rfl rfl rfl ?_
        refine RL.st ?_
        refine NV.p T ?_
        refine RL.nil _ _ _ _ ?_
        refine hK10 _ _ _ ?_
        refine SW.cond_f rfl ?_
        refine SW.skip ?_
        refine hK9 _ _ _ ?_
        refine SW.seq_k ?_
        intro K16 hK16
        refine SW.region _ _ _ _ ?_
        refine RL.st ?_
        refine NV.p T ?_
        refine RL.st ?_
        refine NV.call rfl rfl rfl fun24 rfl rfl (ssee b5_0 _ _ (es.getD k 0) (by omega) (by omega) _ (by repeat first | exact At.head _ _ | apply At.tail | apply At.app)) ?_
        rintro _ _ e; obtain rfl := e.symm
        refine RL.nil _ _ _ _ ?_
        refine hK16 _ _ _ ?_
        refine SW.seq_k ?_
        intro K17 hK17
        refine SW.region _ _ _ _ ?_
        refine RL.st ?_
        refine NV.p T ?_
        refine RL.st ?_
        refine NV.p T ?_
        refine RL.st ?_
        refine NV.p T ?_
        refine RL.st ?_
        refine NV.p T ?_
        refine RL.st ?_
        refine NV.call rfl rfl rfl fun35 rfl rfl (SC.enter Try.func35 rfl (Nat.le_of_ble_eq_true rfl) ?_) (fun _ _ h => h)
        refine SW.seq_k ?_
        intro Ki2_0 hKi2_0
        refine SW.region _ _ _ _ ?_
        refine RL.st ?_
        refine NV.p T ?_
        refine RL.nil _ _ _ _ ?_
        refine hKi2_0 _ _ _ ?_
        refine SW.seq_k ?_
        intro Ki2_1 hKi2_1
        refine SW.region _ _ _ _ ?_
        refine RL.st ?_
        refine NV.p T ?_
        refine RL.st ?_
        first
          | refine NV.store_var1 T rfl rfl rfl rfl (by conv => lhs; whnf) rfl (by repeat first | exact At.head _ _ | assumption | exact At.put (by assumption) _ | apply At.tail | apply At.app) rfl rfl ?_
          | refine NV.store_var T rfl rfl rfl (by exact (rfl : _ = [_])) rfl rfl (by repeat first | exact At.head _ _ | assumption | exact At.put (by assumption) _ | apply At.tail | apply At.app) (Nat.le_of_ble_eq_true rfl) rfl ?_
          | refine NV.store_elem T rfl rfl rfl rfl (by conv => lhs; whnf) rfl (by repeat first | exact At.head _ _ | assumption | exact At.put (by assumption) _ | apply At.tail | apply At.app) (by omega) ?_
        refine RL.nil _ _ _ _ ?_
        refine hKi2_1 _ _ _ ?_
        refine SW.seq_k ?_
        intro Ki2_2 hKi2_2
        refine SW.seq_k ?_
        intro Ki2_3 hKi2_3
        refine SW.region _ _ _ _ ?_
        refine RL.st ?_
        refine NV.p T ?_
        refine RL.nil _ _ _ _ ?_
        refine hKi2_3 _ _ _ ?_
        refine SW.cond rfl (fun hci2_0 => ?_) (fun hci2_0 => ?_)
        ·try simp only [decide_eq_true_eq, decide_eq_false_iff_not, Bool.not_eq_true', Bool.not_eq_false', Int.not_lt, Int.not_le, Int.toNat_natCast] at hci2_0
         first
          | (exfalso; clear hKi2_3 Ki2_3; clear hKi2_2 Ki2_2; clear hKi2_1 Ki2_1; clear hKi2_0 Ki2_0; first | omega | contradiction)
          | (
           refine SW.region _ _ _ _ ?_
           refine RL.st ?_
           first
             | refine NV.lv1 T ?_
             | refine NV.load_elem T rfl rfl rfl rfl (by repeat first | exact hR | apply Rd.cons | apply Rd.app) (by first | exact map_get _ _ (by omega) | assumption) ?_
           refine RL.st ?_
           first | refine NV.arith rfl rfl rfl rfl (by omega) (by omega) ?_ | refine NV.p T ?_
           refine RL.st ?_
           first
             | refine NV.store_var1 T rfl rfl rfl rfl (by conv => lhs; whnf) rfl (by repeat first | exact At.head _ _ | assumption | exact At.put (by assumption) _ | apply At.tail | apply At.app) rfl rfl ?_
             | refine NV.store_var T rfl rfl rfl (by exact (rfl : _ = [_])) rfl rfl (by repeat first | exact At.head _ _ | assumption | exact At.put (by assumption) _ | apply At.tail | apply At.app) (Nat.le_of_ble_eq_true rfl) rfl ?_
             | refine NV.store_elem T rfl rfl rfl rfl (by conv => lhs; whnf) rfl (by repeat first | exact At.head _ _ | assumption | exact At.put (by assumption) _ | apply At.tail | apply At.app) (by omega) ?_
           refine RL.nil _ _ _ _ ?_
           refine hKi2_2 _ _ _ ?_
           refine SW.seq_k ?_
           intro Ki2_4 hKi2_4
           refine SW.region _ _ _ _ ?_
           refine RL.st ?_
           refine NV.p T ?_
           refine RL.nil _ _ _ _ ?_
           refine hKi2_4 _ _ _ ?_
           refine SW.ret ?_
           refine retQ.ret (RVs.tmp (by conv => lhs; whnf) RVs.nil) (fun w hw => hw) ?_
           refine RL.st ?_
           refine NV.p T ?_
           refine RL.nil _ _ _ _ ?_
           refine hK17 _ _ _ ?_
           refine SW.cond rfl (fun hc4 => ?_) (fun hc4 => ?_)
           ·try simp only [decide_eq_true_eq, decide_eq_false_iff_not, Bool.not_eq_true', Bool.not_eq_false', Int.not_lt, Int.not_le, Int.toNat_natCast] at hc4
            first
             | (exfalso; clear hKi2_4 Ki2_4; clear hKi2_3 Ki2_3; clear hKi2_2 Ki2_2; clear hKi2_1 Ki2_1; clear hKi2_0 Ki2_0; clear hK17 K17; clear hK16 K16; clear hK10 K10; clear hK9 K9; clear hK8 K8; clear hK7 K7; clear hK6 K6; clear hK5 K5; clear hK4 K4; clear hK3 K3; clear hK2 K2; clear hK1 K1; clear hK0 K0; first | omega | contradiction)
             | (
              refine SW.exit ?_
              refine hK2 _ _ _ ?_
              refine SW.seq_k ?_
              intro K18 hK18
              refine SW.region _ _ _ _ ?_
              refine RL.st ?_
              refine NV.p T ?_
              refine RL.nil _ _ _ _ ?_
              refine hK18 _ _ _ ?_
              refine SW.ret ?_
              refine retQ.ret (H' := (.row sr L cr 5 1 (o.map (.int .u8)) :: .var bl 4 [.bool d] :: .var bn 3 [.int .i64 q] :: .var bo 22 [.slice sr L cr] :: H)) (RVs.tmp (by conv => lhs; whnf) RVs.nil) (fun w hw => Sat.sub (by repeat first | exact List.Sublist.refl _ | apply List.Sublist.cons_cons | apply List.Sublist.cons | exact List.sublist_append_right _ _ | refine List.Sublist.trans ?_ (List.sublist_append_right _ _)) hw) ?_
              clear hK18 K18 hKi2_4 Ki2_4 hKi2_3 Ki2_3 hKi2_2 Ki2_2 hKi2_1 Ki2_1 hKi2_0 Ki2_0 hK17 K17 hK16 K16 hK10 K10 hK9 K9 hK8 K8 hK7 K7 hK6 K6 hK5 K5 hK4 K4 hK3 K3 hK2 K2 hK1 K1 hK0 K0
              first
                | exact ⟨rfl, sr, L, cr, o, d, q, rfl⟩
                | (exfalso; have h := hI.done (by omega); rw [hg] at h; cases h)
              )
           ·try simp only [decide_eq_true_eq, decide_eq_false_iff_not, Bool.not_eq_true', Bool.not_eq_false', Int.not_lt, Int.not_le, Int.toNat_natCast] at hc4
            first
             | (exfalso; clear hKi2_4 Ki2_4; clear hKi2_3 Ki2_3; clear hKi2_2 Ki2_2; clear hKi2_1 Ki2_1; clear hKi2_0 Ki2_0; clear hK17 K17; clear hK16 K16; clear hK10 K10; clear hK9 K9; clear hK8 K8; clear hK7 K7; clear hK6 K6; clear hK5 K5; clear hK4 K4; clear hK3 K3; clear hK2 K2; clear hK1 K1; clear hK0 K0; first | omega | contradiction)
             | (
              refine SW.skip ?_
              refine hK6 _ _ _ ?_
              refine SW.region _ _ _ _ ?_
              refine RL.st ?_
              first | refine NV.arith rfl rfl rfl rfl (by omega) (by omega) ?_ | refine NV.p T ?_
              refine RL.st ?_
              refine NV.p T ?_
              refine RL.nil _ _ _ _ ?_
              first
                | exact ⟨n - (k + 1), (by omega), k + 1, sr, L, cr, o, q + 1, true, (by rfl), ⟨by omega, ⟨by assumption, hI.stuff (by omega) (by omega) (by omega)⟩⟩, (.cons rfl (.nil (by repeat first | exact Mx.refl | exact Mx.mix | refine Mx.put rfl ?_ | refine Mx.upd rfl ?_ | refine Mx.updl rfl ?_ | refine Mx.fin rfl ?_ | refine Mx.inner rfl ?_ | refine Mx.none ?_))), rfl, (by rw [take_succ (by omega), st_app, decide_eq_true (show (st (es.take k)).2 = 5 by omega)]; rfl)⟩
                | exact ⟨n - (k + 1), (by omega), k + 1, ai1_0_, L + 1, ci1_0_, o ++ [es.getD k 0], q, false, (by rfl), ⟨by omega, ⟨by simp; omega, hI.see (by omega) (by omega)⟩⟩, (.cons rfl (.nil (by repeat first | exact Mx.refl | exact Mx.mix | refine Mx.put rfl ?_ | refine Mx.upd rfl ?_ | refine Mx.updl rfl ?_ | refine Mx.fin rfl ?_ | refine Mx.inner rfl ?_ | refine Mx.none ?_))), rfl, (by rw [take_succ (by omega), st_app, decide_eq_false (show ¬ (st (es.take k)).2 = 5 by omega)]; simp)⟩
                | exact ⟨n - (k + 1), (by omega), k + 1, ai2_0_, L + 1, ci2_0_, o ++ [es.getD k 0], q, false, (by rfl), ⟨by omega, ⟨by simp; omega, hI.see (by omega) (by omega)⟩⟩, (.cons rfl (.nil (by repeat first | exact Mx.refl | exact Mx.mix | refine Mx.put rfl ?_ | refine Mx.upd rfl ?_ | refine Mx.updl rfl ?_ | refine Mx.fin rfl ?_ | refine Mx.inner rfl ?_ | refine Mx.none ?_))), rfl, (by rw [take_succ (by omega), st_app, decide_eq_false (show ¬ (st (es.take k)).2 = 5 by omega)]; simp)⟩
              )
           )
        ·try simp only [decide_eq_true_eq, decide_eq_false_iff_not, Bool.not_eq_true', Bool.not_eq_false', Int.not_lt, Int.not_le, Int.toNat_natCast] at hci2_0
         first
          | (exfalso; clear hKi2_3 Ki2_3; clear hKi2_2 Ki2_2; clear hKi2_1 Ki2_1; clear hKi2_0 Ki2_0; first | omega | contradiction)
          | (
           refine SW.region _ _ _ _ ?_
           refine RL.st ?_
           first
             | refine NV.lv1 T ?_
             | refine NV.load_elem T rfl rfl rfl rfl (by repeat first | exact hR | apply Rd.cons | apply Rd.app) (by first | exact map_get _ _ (by omega) | assumption) ?_
           refine RL.st ?_
           refine NV.p T ?_
           refine RL.st ?_
           refine NV.build1 T rfl (by conv => lhs; whnf) rfl rfl (by conv => lhs; whnf) (by exact (rfl : _ = some [_])) ?_
           intro b16_i2_0
           refine RL.st ?_
           first
             | refine NV.append1 T rfl rfl rfl rfl rfl rfl rfl rfl rfl rfl (by repeat first | exact At.head _ _ | assumption | exact At.put (by assumption) _ | apply At.tail | apply At.app) (ones rfl) (by first | omega | (unfold maxLen; omega)) (by first | omega | (show (_ + _) * 1 ≤ 140737488355328; omega)) ?_
             | refine NV.append T rfl rfl rfl rfl rfl rfl rfl rfl rfl rfl (by repeat first | exact At.head _ _ | assumption | exact At.put (by assumption) _ | apply At.tail | apply At.app) (by assumption) (ones rfl) (by first | omega | (unfold maxLen; omega)) (by first | omega | (show (_ + _) * 1 ≤ 140737488355328; omega)) ?_
           intro ai2_0_ ci2_0_
           refine RL.st ?_
           first
             | refine NV.store_var1 T rfl rfl rfl rfl (by conv => lhs; whnf) rfl (by repeat first | exact At.head _ _ | assumption | exact At.put (by assumption) _ | apply At.tail | apply At.app) rfl rfl ?_
             | refine NV.store_var T rfl rfl rfl (by exact (rfl : _ = [_])) rfl rfl (by repeat first | exact At.head _ _ | assumption | exact At.put (by assumption) _ | apply At.tail | apply At.app) (Nat.le_of_ble_eq_true rfl) rfl ?_
             | refine NV.store_elem T rfl rfl rfl rfl (by conv => lhs; whnf) rfl (by repeat first | exact At.head _ _ | assumption | exact At.put (by assumption) _ | apply At.tail | apply At.app) (by omega) ?_
           refine RL.nil _ _ _ _ ?_
           refine hKi2_2 _ _ _ ?_
           refine SW.seq_k ?_
           intro Ki2_5 hKi2_5
           refine SW.region _ _ _ _ ?_
           refine RL.st ?_
           refine NV.p T ?_
           refine RL.nil _ _ _ _ ?_
           refine hKi2_5 _ _ _ ?_
           refine SW.ret ?_
           refine retQ.ret (RVs.tmp (by conv => lhs; whnf) RVs.nil) (fun w hw => hw) ?_
           refine RL.st ?_
           refine NV.p T ?_
           refine RL.nil _ _ _ _ ?_
           refine hK17 _ _ _ ?_
           refine SW.cond rfl (fun hc5 => ?_) (fun hc5 => ?_)
           ·try simp only [decide_eq_true_eq, decide_eq_false_iff_not, Bool.not_eq_true', Bool.not_eq_false', Int.not_lt, Int.not_le, Int.toNat_natCast] at hc5
            first
             | (exfalso; clear hKi2_5 Ki2_5; clear hKi2_3 Ki2_3; clear hKi2_2 Ki2_2; clear hKi2_1 Ki2_1; clear hKi2_0 Ki2_0; clear hK17 K17; clear hK16 K16; clear hK10 K10; clear hK9 K9; clear hK8 K8; clear hK7 K7; clear hK6 K6; clear hK5 K5; clear hK4 K4; clear hK3 K3; clear hK2 K2; clear hK1 K1; clear hK0 K0; first | omega | contradiction)
             | (
              refine SW.exit ?_
              refine hK2 _ _ _ ?_
              refine SW.seq_k ?_
              intro K19 hK19
              refine SW.region _ _ _ _ ?_
              refine RL.st ?_
              refine NV.p T ?_
              refine RL.nil _ _ _ _ ?_
              refine hK19 _ _ _ ?_
              refine SW.ret ?_
              refine retQ.ret (H' := (.row sr L cr 5 1 (o.map (.int .u8)) :: .var bl 4 [.bool d] :: .var bn 3 [.int .i64 q] :: .var bo 22 [.slice sr L cr] :: H)) (RVs.tmp (by conv => lhs; whnf) RVs.nil) (fun w hw => Sat.sub (by repeat first | exact List.Sublist.refl _ | apply List.Sublist.cons_cons | apply List.Sublist.cons | exact List.sublist_append_right _ _ | refine List.Sublist.trans ?_ (List.sublist_append_right _ _)) hw) ?_
              clear hK19 K19 hKi2_5 Ki2_5 hKi2_3 Ki2_3 hKi2_2 Ki2_2 hKi2_1 Ki2_1 hKi2_0 Ki2_0 hK17 K17 hK16 K16 hK10 K10 hK9 K9 hK8 K8 hK7 K7 hK6 K6 hK5 K5 hK4 K4 hK3 K3 hK2 K2 hK1 K1 hK0 K0
              first
                | exact ⟨rfl, sr, L, cr, o, d, q, rfl⟩
                | (exfalso; have h := hI.done (by omega); rw [hg] at h; cases h)
              )
           ·try simp only [decide_eq_true_eq, decide_eq_false_iff_not, Bool.not_eq_true', Bool.not_eq_false', Int.not_lt, Int.not_le, Int.toNat_natCast] at hc5
            first
             | (exfalso; clear hKi2_5 Ki2_5; clear hKi2_3 Ki2_3; clear hKi2_2 Ki2_2; clear hKi2_1 Ki2_1; clear hKi2_0 Ki2_0; clear hK17 K17; clear hK16 K16; clear hK10 K10; clear hK9 K9; clear hK8 K8; clear hK7 K7; clear hK6 K6; clear hK5 K5; clear hK4 K4; clear hK3 K3; clear hK2 K2; clear hK1 K1; clear hK0 K0; first | omega | contradiction)
             | (
              refine SW.skip ?_
              refine hK6 _ _ _ ?_
              refine SW.region _ _ _ _ ?_
              refine RL.st ?_
              first | refine NV.arith rfl rfl rfl rfl (by omega) (by omega) ?_ | refine NV.p T ?_
              refine RL.st ?_
              refine NV.p T ?_
              refine RL.nil _ _ _ _ ?_
              first
                | exact ⟨n - (k + 1), (by omega), k + 1, sr, L, cr, o, q + 1, true, (by rfl), ⟨by omega, ⟨by assumption, hI.stuff (by omega) (by omega) (by omega)⟩⟩, (.cons rfl (.nil (by repeat first | exact Mx.refl | exact Mx.mix | refine Mx.put rfl ?_ | refine Mx.upd rfl ?_ | refine Mx.updl rfl ?_ | refine Mx.fin rfl ?_ | refine Mx.inner rfl ?_ | refine Mx.none ?_))), rfl, (by rw [take_succ (by omega), st_app, decide_eq_true (show (st (es.take k)).2 = 5 by omega)]; rfl)⟩
                | exact ⟨n - (k + 1), (by omega), k + 1, ai1_0_, L + 1, ci1_0_, o ++ [es.getD k 0], q, false, (by rfl), ⟨by omega, ⟨by simp; omega, hI.see (by omega) (by omega)⟩⟩, (.cons rfl (.nil (by repeat first | exact Mx.refl | exact Mx.mix | refine Mx.put rfl ?_ | refine Mx.upd rfl ?_ | refine Mx.updl rfl ?_ | refine Mx.fin rfl ?_ | refine Mx.inner rfl ?_ | refine Mx.none ?_))), rfl, (by rw [take_succ (by omega), st_app, decide_eq_false (show ¬ (st (es.take k)).2 = 5 by omega)]; simp)⟩
                | exact ⟨n - (k + 1), (by omega), k + 1, ai2_0_, L + 1, ci2_0_, o ++ [es.getD k 0], q, false, (by rfl), ⟨by omega, ⟨by simp; omega, hI.see (by omega) (by omega)⟩⟩, (.cons rfl (.nil (by repeat first | exact Mx.refl | exact Mx.mix | refine Mx.put rfl ?_ | refine Mx.upd rfl ?_ | refine Mx.updl rfl ?_ | refine Mx.fin rfl ?_ | refine Mx.inner rfl ?_ | refine Mx.none ?_))), rfl, (by rw [take_succ (by omega), st_app, decide_eq_false (show ¬ (st (es.take k)).2 = 5 by omega)]; simp)⟩
              )
           )
        )
     )
  ·try simp only [decide_eq_true_eq, decide_eq_false_iff_not, Bool.not_eq_true', Bool.not_eq_false', Int.not_lt, Int.not_le, Int.toNat_natCast] at hc0
   first
    | (exfalso; clear hK5 K5; clear hK4 K4; clear hK3 K3; clear hK2 K2; clear hK1 K1; clear hK0 K0; first | omega | contradiction)
    | (
     refine SW.exit ?_
     refine hK2 _ _ _ ?_
     refine SW.seq_k ?_
     intro K20 hK20
     refine SW.region _ _ _ _ ?_
     refine RL.st ?_
     refine NV.p T ?_
     refine RL.nil _ _ _ _ ?_
     refine hK20 _ _ _ ?_
     refine SW.ret ?_
     refine retQ.ret (H' := (.row sr L cr 5 1 (o.map (.int .u8)) :: .var bl 4 [.bool d] :: .var bn 3 [.int .i64 q] :: .var bo 22 [.slice sr L cr] :: H)) (RVs.tmp (by conv => lhs; whnf) RVs.nil) (fun w hw => Sat.sub (by repeat first | exact List.Sublist.refl _ | apply List.Sublist.cons_cons | apply List.Sublist.cons | exact List.sublist_append_right _ _ | refine List.Sublist.trans ?_ (List.sublist_append_right _ _)) hw) ?_
     clear hK20 K20 hK5 K5 hK4 K4 hK3 K3 hK2 K2 hK1 K1 hK0 K0
     first
       | exact ⟨rfl, sr, L, cr, o, d, q, rfl⟩
       | (exfalso; have h := hI.done (by omega); rw [hg] at h; cases h)
     )
theorem split_bad {w0 : World} {H : List Chunk} (sa : Option Addr) (n c : Nat) (es : List Int) (hR : Rd w0 H sa n c 1 (es.map (.int .u8))) (hn : n = es.length) (hm : n ≤ 140737488351232) (hc : chk es = 2) : SC Try.prog w0 27 #[.slice sa n c] (.row none 0 0 5 1 (([] : List Int).map (.int .u8)) :: H) (fun v H' => v = .tuple #[.slice none 0 0, .int .i64 0, .bool false, .int .i64 2] ∧ H' = H) := by
 refine SC.enter Try.func27 rfl (Nat.le_of_ble_eq_true rfl) ?_
 refine SW.seq_k ?_
 intro K0 hK0
 refine SW.region _ _ _ _ ?_
 refine RL.st ?_
 refine NV.alloc T rfl rfl rfl (by exact (rfl : _ = [_])) ?_
 intro b2_0
 refine RL.st ?_
 refine NV.alloc T rfl rfl rfl (by exact (rfl : _ = [_])) ?_
 intro b3_1
 refine RL.st ?_
 refine NV.alloc T rfl rfl rfl (by exact (rfl : _ = [_])) ?_
 intro b4_2
 refine RL.st ?_
 refine NV.p T ?_
 refine RL.nil _ _ _ _ ?_
 refine hK0 _ _ _ ?_
 refine SW.seq_k ?_
 intro K1 hK1
 refine SW.seq_k ?_
 intro K2 hK2
 refine SW.region _ _ _ _ ?_
 refine RL.st ?_
 refine NV.p T ?_
 refine RL.st ?_
 refine NV.call rfl rfl rfl fun18 rfl rfl ((check sa n c es ((by repeat first | exact hR | apply Rd.cons | apply Rd.app)) hn (by omega)).mono (fun v H' h => by rw [hc] at h; exact h)) ?_
 rintro _ _ ⟨rfl, e⟩; obtain rfl := e.symm
 refine RL.st ?_
 refine NV.p T ?_
 refine RL.nil _ _ _ _ ?_
 refine hK2 _ _ _ ?_
 refine SW.seq_k ?_
 intro K3 hK3
 refine SW.region _ _ _ _ ?_
 refine RL.st ?_
 refine NV.p T ?_
 refine RL.st ?_
 refine NV.p T ?_
 refine RL.nil _ _ _ _ ?_
 refine hK3 _ _ _ ?_
 refine SW.cond rfl (fun hc0 => ?_) (fun hc0 => ?_)
 ·try simp only [decide_eq_true_eq, decide_eq_false_iff_not, Bool.not_eq_true', Bool.not_eq_false', Int.not_lt, Int.not_le, Int.toNat_natCast] at hc0
  first
   | (exfalso; clear hK3 K3; clear hK2 K2; clear hK1 K1; clear hK0 K0; first | omega | contradiction)
   | (
    refine SW.seq_k ?_
    intro K4 hK4
    refine SW.region _ _ _ _ ?_
    refine RL.st ?_
    refine NV.p T ?_
    refine RL.st ?_
    refine NV.store_var1 T rfl rfl rfl rfl (by conv => lhs; whnf) rfl (by repeat first | exact At.head _ _ | assumption | exact At.put (by assumption) _ | apply At.tail | apply At.app) rfl (by exact (rfl : _ = [_])) ?_
    refine RL.st ?_
    refine NV.store_var1 T rfl rfl rfl rfl (by conv => lhs; whnf) rfl (by repeat first | exact At.head _ _ | assumption | exact At.put (by assumption) _ | apply At.tail | apply At.app) rfl (by exact (rfl : _ = [_])) ?_
    refine RL.st ?_
    refine NV.store_var1 T rfl rfl rfl rfl (by conv => lhs; whnf) rfl (by repeat first | exact At.head _ _ | assumption | exact At.put (by assumption) _ | apply At.tail | apply At.app) rfl (by exact (rfl : _ = [_])) ?_
    refine RL.st ?_
    refine NV.p T ?_
    refine RL.nil _ _ _ _ ?_
    refine hK4 _ _ _ ?_
    refine SW.ret ?_
    refine retQ.ret (H' := H) (by first | exact RVs.var1 T rfl rfl rfl (by repeat first | exact At.head _ _ | assumption | exact At.put (by assumption) _ | apply At.tail | apply At.app) rfl (by first | exact RVs.var1 T rfl rfl rfl (by repeat first | exact At.head _ _ | assumption | exact At.put (by assumption) _ | apply At.tail | apply At.app) rfl (by first | exact RVs.var1 T rfl rfl rfl (by repeat first | exact At.head _ _ | assumption | exact At.put (by assumption) _ | apply At.tail | apply At.app) rfl (RVs.tmp (by conv => lhs; whnf) RVs.nil) | exact RVs.varN T rfl rfl rfl rfl (by repeat first | exact At.head _ _ | assumption | exact At.put (by assumption) _ | apply At.tail | apply At.app) (by exact (rfl : _ = [_])) rfl (RVs.tmp (by conv => lhs; whnf) RVs.nil)) | exact RVs.varN T rfl rfl rfl rfl (by repeat first | exact At.head _ _ | assumption | exact At.put (by assumption) _ | apply At.tail | apply At.app) (by exact (rfl : _ = [_])) rfl (by first | exact RVs.var1 T rfl rfl rfl (by repeat first | exact At.head _ _ | assumption | exact At.put (by assumption) _ | apply At.tail | apply At.app) rfl (RVs.tmp (by conv => lhs; whnf) RVs.nil) | exact RVs.varN T rfl rfl rfl rfl (by repeat first | exact At.head _ _ | assumption | exact At.put (by assumption) _ | apply At.tail | apply At.app) (by exact (rfl : _ = [_])) rfl (RVs.tmp (by conv => lhs; whnf) RVs.nil))) | exact RVs.varN T rfl rfl rfl rfl (by repeat first | exact At.head _ _ | assumption | exact At.put (by assumption) _ | apply At.tail | apply At.app) (by exact (rfl : _ = [_])) rfl (by first | exact RVs.var1 T rfl rfl rfl (by repeat first | exact At.head _ _ | assumption | exact At.put (by assumption) _ | apply At.tail | apply At.app) rfl (by first | exact RVs.var1 T rfl rfl rfl (by repeat first | exact At.head _ _ | assumption | exact At.put (by assumption) _ | apply At.tail | apply At.app) rfl (RVs.tmp (by conv => lhs; whnf) RVs.nil) | exact RVs.varN T rfl rfl rfl rfl (by repeat first | exact At.head _ _ | assumption | exact At.put (by assumption) _ | apply At.tail | apply At.app) (by exact (rfl : _ = [_])) rfl (RVs.tmp (by conv => lhs; whnf) RVs.nil)) | exact RVs.varN T rfl rfl rfl rfl (by repeat first | exact At.head _ _ | assumption | exact At.put (by assumption) _ | apply At.tail | apply At.app) (by exact (rfl : _ = [_])) rfl (by first | exact RVs.var1 T rfl rfl rfl (by repeat first | exact At.head _ _ | assumption | exact At.put (by assumption) _ | apply At.tail | apply At.app) rfl (RVs.tmp (by conv => lhs; whnf) RVs.nil) | exact RVs.varN T rfl rfl rfl rfl (by repeat first | exact At.head _ _ | assumption | exact At.put (by assumption) _ | apply At.tail | apply At.app) (by exact (rfl : _ = [_])) rfl (RVs.tmp (by conv => lhs; whnf) RVs.nil)))) (fun w hw => Sat.sub (by repeat first | exact List.Sublist.refl _ | apply List.Sublist.cons_cons | apply List.Sublist.cons | exact List.sublist_append_right _ _ | refine List.Sublist.trans ?_ (List.sublist_append_right _ _)) hw) ?_
    clear hK4 K4 hK3 K3 hK2 K2 hK1 K1 hK0 K0
    exact ⟨rfl, rfl⟩
    )
 ·try simp only [decide_eq_true_eq, decide_eq_false_iff_not, Bool.not_eq_true', Bool.not_eq_false', Int.not_lt, Int.not_le, Int.toNat_natCast] at hc0
  exfalso; clear hK3 K3; clear hK2 K2; clear hK1 K1; clear hK0 K0; first | omega | contradiction
theorem split_ok {w0 : World} {H : List Chunk} (sa : Option Addr) (n c : Nat) (es : List Int) (hR : Rd w0 H sa n c 1 (es.map (.int .u8))) (hn : n = es.length) (hm : n ≤ 140737488351232) (hc : chk es = 0) (o' : List Int) (q' : Int) (d' : Bool) (hg : getF [] ([], 0, false) es = some (o', q', d')) : SC Try.prog w0 27 #[.slice sa n c] (.row none 0 0 5 1 (([] : List Int).map (.int .u8)) :: H) (fun v H' => ∃ u, v = .tuple #[u, .int .i64 q', .bool d', .int .i64 0] ∧ Res w0 H o' u H') := by
 refine SC.enter Try.func27 rfl (Nat.le_of_ble_eq_true rfl) ?_
 refine SW.seq_k ?_
 intro K0 hK0
 refine SW.region _ _ _ _ ?_
 refine RL.st ?_
 refine NV.alloc T rfl rfl rfl (by exact (rfl : _ = [_])) ?_
 intro b2_0
 refine RL.st ?_
 refine NV.alloc T rfl rfl rfl (by exact (rfl : _ = [_])) ?_
 intro b3_1
 refine RL.st ?_
 refine NV.alloc T rfl rfl rfl (by exact (rfl : _ = [_])) ?_
 intro b4_2
 refine RL.st ?_
 refine NV.p T ?_
 refine RL.nil _ _ _ _ ?_
 refine hK0 _ _ _ ?_
 refine SW.seq_k ?_
 intro K1 hK1
 refine SW.seq_k ?_
 intro K2 hK2
 refine SW.region _ _ _ _ ?_
 refine RL.st ?_
 refine NV.p T ?_
 refine RL.st ?_
 refine NV.call rfl rfl rfl fun18 rfl rfl ((check sa n c es ((by repeat first | exact hR | apply Rd.cons | apply Rd.app)) hn (by omega)).mono (fun v H' h => by rw [hc] at h; exact h)) ?_
 rintro _ _ ⟨rfl, e⟩; obtain rfl := e.symm
 refine RL.st ?_
 refine NV.p T ?_
 refine RL.nil _ _ _ _ ?_
 refine hK2 _ _ _ ?_
 refine SW.seq_k ?_
 intro K3 hK3
 refine SW.region _ _ _ _ ?_
 refine RL.st ?_
 refine NV.p T ?_
 refine RL.st ?_
 refine NV.p T ?_
 refine RL.nil _ _ _ _ ?_
 refine hK3 _ _ _ ?_
 refine SW.cond rfl (fun hc0 => ?_) (fun hc0 => ?_)
 ·try simp only [decide_eq_true_eq, decide_eq_false_iff_not, Bool.not_eq_true', Bool.not_eq_false', Int.not_lt, Int.not_le, Int.toNat_natCast] at hc0
  first
   | (exfalso; clear hK3 K3; clear hK2 K2; clear hK1 K1; clear hK0 K0; first | omega | contradiction)
   | (
    refine SW.seq_k ?_
    intro K4 hK4
    refine SW.region _ _ _ _ ?_
    refine RL.st ?_
    refine NV.p T ?_
    refine RL.st ?_
    refine NV.store_var1 T rfl rfl rfl rfl (by conv => lhs; whnf) rfl (by repeat first | exact At.head _ _ | assumption | exact At.put (by assumption) _ | apply At.tail | apply At.app) rfl (by exact (rfl : _ = [_])) ?_
    refine RL.st ?_
    refine NV.store_var1 T rfl rfl rfl rfl (by conv => lhs; whnf) rfl (by repeat first | exact At.head _ _ | assumption | exact At.put (by assumption) _ | apply At.tail | apply At.app) rfl (by exact (rfl : _ = [_])) ?_
    refine RL.st ?_
    refine NV.store_var1 T rfl rfl rfl rfl (by conv => lhs; whnf) rfl (by repeat first | exact At.head _ _ | assumption | exact At.put (by assumption) _ | apply At.tail | apply At.app) rfl (by exact (rfl : _ = [_])) ?_
    refine RL.st ?_
    refine NV.p T ?_
    refine RL.nil _ _ _ _ ?_
    refine hK4 _ _ _ ?_
    refine SW.sat (fun hs => ?_)
    refine SW.ret ?_
    refine retQ.ret (by first | exact RVs.var1 T rfl rfl rfl (by repeat first | exact At.head _ _ | assumption | exact At.put (by assumption) _ | apply At.tail | apply At.app) rfl (by first | exact RVs.var1 T rfl rfl rfl (by repeat first | exact At.head _ _ | assumption | exact At.put (by assumption) _ | apply At.tail | apply At.app) rfl (by first | exact RVs.var1 T rfl rfl rfl (by repeat first | exact At.head _ _ | assumption | exact At.put (by assumption) _ | apply At.tail | apply At.app) rfl (RVs.tmp (by conv => lhs; whnf) RVs.nil) | exact RVs.varN T rfl rfl rfl rfl (by repeat first | exact At.head _ _ | assumption | exact At.put (by assumption) _ | apply At.tail | apply At.app) (by exact (rfl : _ = [_])) rfl (RVs.tmp (by conv => lhs; whnf) RVs.nil)) | exact RVs.varN T rfl rfl rfl rfl (by repeat first | exact At.head _ _ | assumption | exact At.put (by assumption) _ | apply At.tail | apply At.app) (by exact (rfl : _ = [_])) rfl (by first | exact RVs.var1 T rfl rfl rfl (by repeat first | exact At.head _ _ | assumption | exact At.put (by assumption) _ | apply At.tail | apply At.app) rfl (RVs.tmp (by conv => lhs; whnf) RVs.nil) | exact RVs.varN T rfl rfl rfl rfl (by repeat first | exact At.head _ _ | assumption | exact At.put (by assumption) _ | apply At.tail | apply At.app) (by exact (rfl : _ = [_])) rfl (RVs.tmp (by conv => lhs; whnf) RVs.nil))) | exact RVs.varN T rfl rfl rfl rfl (by repeat first | exact At.head _ _ | assumption | exact At.put (by assumption) _ | apply At.tail | apply At.app) (by exact (rfl : _ = [_])) rfl (by first | exact RVs.var1 T rfl rfl rfl (by repeat first | exact At.head _ _ | assumption | exact At.put (by assumption) _ | apply At.tail | apply At.app) rfl (by first | exact RVs.var1 T rfl rfl rfl (by repeat first | exact At.head _ _ | assumption | exact At.put (by assumption) _ | apply At.tail | apply At.app) rfl (RVs.tmp (by conv => lhs; whnf) RVs.nil) | exact RVs.varN T rfl rfl rfl rfl (by repeat first | exact At.head _ _ | assumption | exact At.put (by assumption) _ | apply At.tail | apply At.app) (by exact (rfl : _ = [_])) rfl (RVs.tmp (by conv => lhs; whnf) RVs.nil)) | exact RVs.varN T rfl rfl rfl rfl (by repeat first | exact At.head _ _ | assumption | exact At.put (by assumption) _ | apply At.tail | apply At.app) (by exact (rfl : _ = [_])) rfl (by first | exact RVs.var1 T rfl rfl rfl (by repeat first | exact At.head _ _ | assumption | exact At.put (by assumption) _ | apply At.tail | apply At.app) rfl (RVs.tmp (by conv => lhs; whnf) RVs.nil) | exact RVs.varN T rfl rfl rfl rfl (by repeat first | exact At.head _ _ | assumption | exact At.put (by assumption) _ | apply At.tail | apply At.app) (by exact (rfl : _ = [_])) rfl (RVs.tmp (by conv => lhs; whnf) RVs.nil)))) (fun w hw => hw) ?_
    clear hK4 K4 hK3 K3 hK2 K2 hK1 K1 hK0 K0
    exact ⟨_, rfl, Res.row hs (At.head _ _) (G := [_, _, _, _]) rfl⟩
    )
 ·try simp only [decide_eq_true_eq, decide_eq_false_iff_not, Bool.not_eq_true', Bool.not_eq_false', Int.not_lt, Int.not_le, Int.toNat_natCast] at hc0
  first
   | (exfalso; clear hK3 K3; clear hK2 K2; clear hK1 K1; clear hK0 K0; first | omega | contradiction)
   | (
    refine SW.skip ?_
    refine hK1 _ _ _ ?_
    refine SW.seq_k ?_
    intro K5 hK5
    refine SW.region _ _ _ _ ?_
    refine RL.st ?_
    refine NV.p T ?_
    refine RL.st ?_
    refine NV.p T ?_
    refine RL.st ?_
    refine NV.call rfl rfl rfl fun32 rfl rfl (SC.perm (by exact (List.perm_append_comm (l₁ := [_, _, _]) (l₂ := [_])).append_right H) (read_ok _ _ _ sa n c es hR hn hm o' q' d' hg)) ?_
    rintro _ _ ⟨rfl, sr, cr, e⟩; obtain rfl := e.symm
    refine RL.st ?_
    refine NV.p T ?_
    refine RL.nil _ _ _ _ ?_
    refine hK5 _ _ _ ?_
    refine SW.seq_k ?_
    intro K6 hK6
    refine SW.draw [(15, 0), (16, 1), (17, 2), (18, 3), (5, 7)] [[], [], [], [], [0], [1, 4, 0], [2, 5, 1, 4, 0], [3, 6, 2, 5, 1, 4, 0]] mixed (by kernel_rfl) (by kernel_rfl) ?_
    refine RD.q rfl rfl (Gd.none rfl) (by first | exact QV.load_var1 T rfl rfl rfl rfl (by repeat first | exact At.head _ _ | assumption | exact At.put (by assumption) _ | apply At.tail | apply At.app) rfl | exact QV.load_varN T rfl rfl rfl rfl rfl (by repeat first | exact At.head _ _ | assumption | exact At.put (by assumption) _ | apply At.tail | apply At.app) (by exact (rfl : _ = [_])) rfl | exact QV.load_elem T rfl rfl rfl rfl (by assumption) (by first | exact map_get _ _ (by omega) | assumption)) ?_
    refine RD.q rfl rfl (Gd.none rfl) (by first | exact QV.load_var1 T rfl rfl rfl rfl (by repeat first | exact At.head _ _ | assumption | exact At.put (by assumption) _ | apply At.tail | apply At.app) rfl | exact QV.load_varN T rfl rfl rfl rfl rfl (by repeat first | exact At.head _ _ | assumption | exact At.put (by assumption) _ | apply At.tail | apply At.app) (by exact (rfl : _ = [_])) rfl | exact QV.load_elem T rfl rfl rfl rfl (by assumption) (by first | exact map_get _ _ (by omega) | assumption)) ?_
    refine RD.q rfl rfl (Gd.none rfl) (by first | exact QV.load_var1 T rfl rfl rfl rfl (by repeat first | exact At.head _ _ | assumption | exact At.put (by assumption) _ | apply At.tail | apply At.app) rfl | exact QV.load_varN T rfl rfl rfl rfl rfl (by repeat first | exact At.head _ _ | assumption | exact At.put (by assumption) _ | apply At.tail | apply At.app) (by exact (rfl : _ = [_])) rfl | exact QV.load_elem T rfl rfl rfl rfl (by assumption) (by first | exact map_get _ _ (by omega) | assumption)) ?_
    refine RD.q rfl rfl (Gd.none rfl) (pev_sound T (by conv => lhs; whnf; arg 1; whnf)) ?_
    refine RD.nv rfl rfl rfl (Gd.none rfl) ?_
    refine NV.store_var1 T rfl rfl rfl rfl (by conv => lhs; whnf) rfl (by repeat first | exact At.head _ _ | assumption | exact At.put (by assumption) _ | apply At.tail | apply At.app) rfl (by exact (rfl : _ = [_])) ?_
    refine ⟨(Stab.cons rfl (Gd.none rfl) (pev_sound T rfl) (Stab.cons rfl (Gd.none rfl) (by first | exact QV.load_var1 T rfl rfl rfl rfl (by repeat first | exact At.head _ _ | assumption | exact At.put (by assumption) _ | apply At.tail | apply At.app) rfl | exact QV.load_varN T rfl rfl rfl rfl rfl (by repeat first | exact At.head _ _ | assumption | exact At.put (by assumption) _ | apply At.tail | apply At.app) rfl rfl | exact QV.load_elem T rfl rfl rfl rfl (by assumption) (by first | exact map_get _ _ (by omega) | assumption)) (Stab.cons rfl (Gd.none rfl) (by first | exact QV.load_var1 T rfl rfl rfl rfl (by repeat first | exact At.head _ _ | assumption | exact At.put (by assumption) _ | apply At.tail | apply At.app) rfl | exact QV.load_varN T rfl rfl rfl rfl rfl (by repeat first | exact At.head _ _ | assumption | exact At.put (by assumption) _ | apply At.tail | apply At.app) rfl rfl | exact QV.load_elem T rfl rfl rfl rfl (by assumption) (by first | exact map_get _ _ (by omega) | assumption)) Stab.nil))), ?_⟩
    refine RD.nv rfl rfl rfl (Gd.none rfl) ?_
    refine NV.store_var1 T rfl rfl rfl rfl (by conv => lhs; whnf) rfl (by repeat first | exact At.head _ _ | assumption | exact At.put (by assumption) _ | apply At.tail | apply At.app) rfl (by exact (rfl : _ = [_])) ?_
    refine ⟨(Stab.cons rfl (Gd.none rfl) (pev_sound T rfl) (Stab.cons rfl (Gd.none rfl) (by first | exact QV.load_var1 T rfl rfl rfl rfl (by repeat first | exact At.head _ _ | assumption | exact At.put (by assumption) _ | apply At.tail | apply At.app) rfl | exact QV.load_varN T rfl rfl rfl rfl rfl (by repeat first | exact At.head _ _ | assumption | exact At.put (by assumption) _ | apply At.tail | apply At.app) rfl rfl | exact QV.load_elem T rfl rfl rfl rfl (by assumption) (by first | exact map_get _ _ (by omega) | assumption)) Stab.nil)), ?_⟩
    refine RD.nv rfl rfl rfl (Gd.none rfl) ?_
    refine NV.store_var1 T rfl rfl rfl rfl (by conv => lhs; whnf) rfl (by repeat first | exact At.head _ _ | assumption | exact At.put (by assumption) _ | apply At.tail | apply At.app) rfl (by exact (rfl : _ = [_])) ?_
    refine ⟨(Stab.cons rfl (Gd.none rfl) (pev_sound T rfl) Stab.nil), ?_⟩
    refine RD.q rfl rfl (Gd.none rfl) (pev_sound T (by conv => lhs; whnf; arg 1; whnf)) ?_
    refine RD.k rfl rfl ?_
    refine hK6 _ _ _ ?_
    refine SW.sat (fun hs => ?_)
    refine SW.ret ?_
    refine retQ.ret (by first | exact RVs.var1 T rfl rfl rfl (by repeat first | exact At.head _ _ | assumption | exact At.put (by assumption) _ | apply At.tail | apply At.app) rfl (by first | exact RVs.var1 T rfl rfl rfl (by repeat first | exact At.head _ _ | assumption | exact At.put (by assumption) _ | apply At.tail | apply At.app) rfl (by first | exact RVs.var1 T rfl rfl rfl (by repeat first | exact At.head _ _ | assumption | exact At.put (by assumption) _ | apply At.tail | apply At.app) rfl (RVs.tmp (by conv => lhs; whnf) RVs.nil) | exact RVs.varN T rfl rfl rfl rfl (by repeat first | exact At.head _ _ | assumption | exact At.put (by assumption) _ | apply At.tail | apply At.app) (by exact (rfl : _ = [_])) rfl (RVs.tmp (by conv => lhs; whnf) RVs.nil)) | exact RVs.varN T rfl rfl rfl rfl (by repeat first | exact At.head _ _ | assumption | exact At.put (by assumption) _ | apply At.tail | apply At.app) (by exact (rfl : _ = [_])) rfl (by first | exact RVs.var1 T rfl rfl rfl (by repeat first | exact At.head _ _ | assumption | exact At.put (by assumption) _ | apply At.tail | apply At.app) rfl (RVs.tmp (by conv => lhs; whnf) RVs.nil) | exact RVs.varN T rfl rfl rfl rfl (by repeat first | exact At.head _ _ | assumption | exact At.put (by assumption) _ | apply At.tail | apply At.app) (by exact (rfl : _ = [_])) rfl (RVs.tmp (by conv => lhs; whnf) RVs.nil))) | exact RVs.varN T rfl rfl rfl rfl (by repeat first | exact At.head _ _ | assumption | exact At.put (by assumption) _ | apply At.tail | apply At.app) (by exact (rfl : _ = [_])) rfl (by first | exact RVs.var1 T rfl rfl rfl (by repeat first | exact At.head _ _ | assumption | exact At.put (by assumption) _ | apply At.tail | apply At.app) rfl (by first | exact RVs.var1 T rfl rfl rfl (by repeat first | exact At.head _ _ | assumption | exact At.put (by assumption) _ | apply At.tail | apply At.app) rfl (RVs.tmp (by conv => lhs; whnf) RVs.nil) | exact RVs.varN T rfl rfl rfl rfl (by repeat first | exact At.head _ _ | assumption | exact At.put (by assumption) _ | apply At.tail | apply At.app) (by exact (rfl : _ = [_])) rfl (RVs.tmp (by conv => lhs; whnf) RVs.nil)) | exact RVs.varN T rfl rfl rfl rfl (by repeat first | exact At.head _ _ | assumption | exact At.put (by assumption) _ | apply At.tail | apply At.app) (by exact (rfl : _ = [_])) rfl (by first | exact RVs.var1 T rfl rfl rfl (by repeat first | exact At.head _ _ | assumption | exact At.put (by assumption) _ | apply At.tail | apply At.app) rfl (RVs.tmp (by conv => lhs; whnf) RVs.nil) | exact RVs.varN T rfl rfl rfl rfl (by repeat first | exact At.head _ _ | assumption | exact At.put (by assumption) _ | apply At.tail | apply At.app) (by exact (rfl : _ = [_])) rfl (RVs.tmp (by conv => lhs; whnf) RVs.nil)))) (fun w hw => hw) ?_
    clear hK6 K6 hK5 K5 hK3 K3 hK2 K2 hK1 K1 hK0 K0
    exact ⟨_, rfl, Res.row hs (At.head _ _) (G := [_, _, _, _]) rfl⟩
    )
theorem split_no {w0 : World} {H : List Chunk} (sa : Option Addr) (n c : Nat) (es : List Int) (hR : Rd w0 H sa n c 1 (es.map (.int .u8))) (hn : n = es.length) (hm : n ≤ 140737488351232) (hc : chk es = 0) (hg : getF [] ([], 0, false) es = none) : SC Try.prog w0 27 #[.slice sa n c] (.row none 0 0 5 1 (([] : List Int).map (.int .u8)) :: H) (fun v H' => ∃ u q d, v = .tuple #[u, .int .i64 q, .bool d, .int .i64 4] ∧ ∃ G, H' = G ++ H) := by
 refine SC.enter Try.func27 rfl (Nat.le_of_ble_eq_true rfl) ?_
 refine SW.seq_k ?_
 intro K0 hK0
 refine SW.region _ _ _ _ ?_
 refine RL.st ?_
 refine NV.alloc T rfl rfl rfl (by exact (rfl : _ = [_])) ?_
 intro b2_0
 refine RL.st ?_
 refine NV.alloc T rfl rfl rfl (by exact (rfl : _ = [_])) ?_
 intro b3_1
 refine RL.st ?_
 refine NV.alloc T rfl rfl rfl (by exact (rfl : _ = [_])) ?_
 intro b4_2
 refine RL.st ?_
 refine NV.p T ?_
 refine RL.nil _ _ _ _ ?_
 refine hK0 _ _ _ ?_
 refine SW.seq_k ?_
 intro K1 hK1
 refine SW.seq_k ?_
 intro K2 hK2
 refine SW.region _ _ _ _ ?_
 refine RL.st ?_
 refine NV.p T ?_
 refine RL.st ?_
 refine NV.call rfl rfl rfl fun18 rfl rfl ((check sa n c es ((by repeat first | exact hR | apply Rd.cons | apply Rd.app)) hn (by omega)).mono (fun v H' h => by rw [hc] at h; exact h)) ?_
 rintro _ _ ⟨rfl, e⟩; obtain rfl := e.symm
 refine RL.st ?_
 refine NV.p T ?_
 refine RL.nil _ _ _ _ ?_
 refine hK2 _ _ _ ?_
 refine SW.seq_k ?_
 intro K3 hK3
 refine SW.region _ _ _ _ ?_
 refine RL.st ?_
 refine NV.p T ?_
 refine RL.st ?_
 refine NV.p T ?_
 refine RL.nil _ _ _ _ ?_
 refine hK3 _ _ _ ?_
 refine SW.cond rfl (fun hc0 => ?_) (fun hc0 => ?_)
 ·try simp only [decide_eq_true_eq, decide_eq_false_iff_not, Bool.not_eq_true', Bool.not_eq_false', Int.not_lt, Int.not_le, Int.toNat_natCast] at hc0
  first
   | (exfalso; clear hK3 K3; clear hK2 K2; clear hK1 K1; clear hK0 K0; first | omega | contradiction)
   | (
    refine SW.seq_k ?_
    intro K4 hK4
    refine SW.region _ _ _ _ ?_
    refine RL.st ?_
    refine NV.p T ?_
    refine RL.st ?_
    refine NV.store_var1 T rfl rfl rfl rfl (by conv => lhs; whnf) rfl (by repeat first | exact At.head _ _ | assumption | exact At.put (by assumption) _ | apply At.tail | apply At.app) rfl (by exact (rfl : _ = [_])) ?_
    refine RL.st ?_
    refine NV.store_var1 T rfl rfl rfl rfl (by conv => lhs; whnf) rfl (by repeat first | exact At.head _ _ | assumption | exact At.put (by assumption) _ | apply At.tail | apply At.app) rfl (by exact (rfl : _ = [_])) ?_
    refine RL.st ?_
    refine NV.store_var1 T rfl rfl rfl rfl (by conv => lhs; whnf) rfl (by repeat first | exact At.head _ _ | assumption | exact At.put (by assumption) _ | apply At.tail | apply At.app) rfl (by exact (rfl : _ = [_])) ?_
    refine RL.st ?_
    refine NV.p T ?_
    refine RL.nil _ _ _ _ ?_
    refine hK4 _ _ _ ?_
    refine SW.ret ?_
    refine retQ.ret (by first | exact RVs.var1 T rfl rfl rfl (by repeat first | exact At.head _ _ | assumption | exact At.put (by assumption) _ | apply At.tail | apply At.app) rfl (by first | exact RVs.var1 T rfl rfl rfl (by repeat first | exact At.head _ _ | assumption | exact At.put (by assumption) _ | apply At.tail | apply At.app) rfl (by first | exact RVs.var1 T rfl rfl rfl (by repeat first | exact At.head _ _ | assumption | exact At.put (by assumption) _ | apply At.tail | apply At.app) rfl (RVs.tmp (by conv => lhs; whnf) RVs.nil) | exact RVs.varN T rfl rfl rfl rfl (by repeat first | exact At.head _ _ | assumption | exact At.put (by assumption) _ | apply At.tail | apply At.app) (by exact (rfl : _ = [_])) rfl (RVs.tmp (by conv => lhs; whnf) RVs.nil)) | exact RVs.varN T rfl rfl rfl rfl (by repeat first | exact At.head _ _ | assumption | exact At.put (by assumption) _ | apply At.tail | apply At.app) (by exact (rfl : _ = [_])) rfl (by first | exact RVs.var1 T rfl rfl rfl (by repeat first | exact At.head _ _ | assumption | exact At.put (by assumption) _ | apply At.tail | apply At.app) rfl (RVs.tmp (by conv => lhs; whnf) RVs.nil) | exact RVs.varN T rfl rfl rfl rfl (by repeat first | exact At.head _ _ | assumption | exact At.put (by assumption) _ | apply At.tail | apply At.app) (by exact (rfl : _ = [_])) rfl (RVs.tmp (by conv => lhs; whnf) RVs.nil))) | exact RVs.varN T rfl rfl rfl rfl (by repeat first | exact At.head _ _ | assumption | exact At.put (by assumption) _ | apply At.tail | apply At.app) (by exact (rfl : _ = [_])) rfl (by first | exact RVs.var1 T rfl rfl rfl (by repeat first | exact At.head _ _ | assumption | exact At.put (by assumption) _ | apply At.tail | apply At.app) rfl (by first | exact RVs.var1 T rfl rfl rfl (by repeat first | exact At.head _ _ | assumption | exact At.put (by assumption) _ | apply At.tail | apply At.app) rfl (RVs.tmp (by conv => lhs; whnf) RVs.nil) | exact RVs.varN T rfl rfl rfl rfl (by repeat first | exact At.head _ _ | assumption | exact At.put (by assumption) _ | apply At.tail | apply At.app) (by exact (rfl : _ = [_])) rfl (RVs.tmp (by conv => lhs; whnf) RVs.nil)) | exact RVs.varN T rfl rfl rfl rfl (by repeat first | exact At.head _ _ | assumption | exact At.put (by assumption) _ | apply At.tail | apply At.app) (by exact (rfl : _ = [_])) rfl (by first | exact RVs.var1 T rfl rfl rfl (by repeat first | exact At.head _ _ | assumption | exact At.put (by assumption) _ | apply At.tail | apply At.app) rfl (RVs.tmp (by conv => lhs; whnf) RVs.nil) | exact RVs.varN T rfl rfl rfl rfl (by repeat first | exact At.head _ _ | assumption | exact At.put (by assumption) _ | apply At.tail | apply At.app) (by exact (rfl : _ = [_])) rfl (RVs.tmp (by conv => lhs; whnf) RVs.nil)))) (fun w hw => hw) ?_
    clear hK4 K4 hK3 K3 hK2 K2 hK1 K1 hK0 K0
    exact ⟨_, _, _, rfl, [_, _, _, _], rfl⟩
    )
 ·try simp only [decide_eq_true_eq, decide_eq_false_iff_not, Bool.not_eq_true', Bool.not_eq_false', Int.not_lt, Int.not_le, Int.toNat_natCast] at hc0
  first
   | (exfalso; clear hK3 K3; clear hK2 K2; clear hK1 K1; clear hK0 K0; first | omega | contradiction)
   | (
    refine SW.skip ?_
    refine hK1 _ _ _ ?_
    refine SW.seq_k ?_
    intro K5 hK5
    refine SW.region _ _ _ _ ?_
    refine RL.st ?_
    refine NV.p T ?_
    refine RL.st ?_
    refine NV.p T ?_
    refine RL.st ?_
    refine NV.call rfl rfl rfl fun32 rfl rfl (SC.perm (by exact (List.perm_append_comm (l₁ := [_, _, _]) (l₂ := [_])).append_right H) (read_no _ _ _ sa n c es hR hn hm hg)) ?_
    rintro _ _ ⟨rfl, sr, L, cr, o, d, q, e⟩; obtain rfl := e.symm
    refine RL.st ?_
    refine NV.p T ?_
    refine RL.nil _ _ _ _ ?_
    refine hK5 _ _ _ ?_
    refine SW.seq_k ?_
    intro K6 hK6
    refine SW.draw [(15, 0), (16, 1), (17, 2), (18, 3), (5, 7)] [[], [], [], [], [0], [1, 4, 0], [2, 5, 1, 4, 0], [3, 6, 2, 5, 1, 4, 0]] mixed (by kernel_rfl) (by kernel_rfl) ?_
    refine RD.q rfl rfl (Gd.none rfl) (by first | exact QV.load_var1 T rfl rfl rfl rfl (by repeat first | exact At.head _ _ | assumption | exact At.put (by assumption) _ | apply At.tail | apply At.app) rfl | exact QV.load_varN T rfl rfl rfl rfl rfl (by repeat first | exact At.head _ _ | assumption | exact At.put (by assumption) _ | apply At.tail | apply At.app) (by exact (rfl : _ = [_])) rfl | exact QV.load_elem T rfl rfl rfl rfl (by assumption) (by first | exact map_get _ _ (by omega) | assumption)) ?_
    refine RD.q rfl rfl (Gd.none rfl) (by first | exact QV.load_var1 T rfl rfl rfl rfl (by repeat first | exact At.head _ _ | assumption | exact At.put (by assumption) _ | apply At.tail | apply At.app) rfl | exact QV.load_varN T rfl rfl rfl rfl rfl (by repeat first | exact At.head _ _ | assumption | exact At.put (by assumption) _ | apply At.tail | apply At.app) (by exact (rfl : _ = [_])) rfl | exact QV.load_elem T rfl rfl rfl rfl (by assumption) (by first | exact map_get _ _ (by omega) | assumption)) ?_
    refine RD.q rfl rfl (Gd.none rfl) (by first | exact QV.load_var1 T rfl rfl rfl rfl (by repeat first | exact At.head _ _ | assumption | exact At.put (by assumption) _ | apply At.tail | apply At.app) rfl | exact QV.load_varN T rfl rfl rfl rfl rfl (by repeat first | exact At.head _ _ | assumption | exact At.put (by assumption) _ | apply At.tail | apply At.app) (by exact (rfl : _ = [_])) rfl | exact QV.load_elem T rfl rfl rfl rfl (by assumption) (by first | exact map_get _ _ (by omega) | assumption)) ?_
    refine RD.q rfl rfl (Gd.none rfl) (pev_sound T (by conv => lhs; whnf; arg 1; whnf)) ?_
    refine RD.nv rfl rfl rfl (Gd.none rfl) ?_
    refine NV.store_var1 T rfl rfl rfl rfl (by conv => lhs; whnf) rfl (by repeat first | exact At.head _ _ | assumption | exact At.put (by assumption) _ | apply At.tail | apply At.app) rfl (by exact (rfl : _ = [_])) ?_
    refine ⟨(Stab.cons rfl (Gd.none rfl) (pev_sound T rfl) (Stab.cons rfl (Gd.none rfl) (by first | exact QV.load_var1 T rfl rfl rfl rfl (by repeat first | exact At.head _ _ | assumption | exact At.put (by assumption) _ | apply At.tail | apply At.app) rfl | exact QV.load_varN T rfl rfl rfl rfl rfl (by repeat first | exact At.head _ _ | assumption | exact At.put (by assumption) _ | apply At.tail | apply At.app) rfl rfl | exact QV.load_elem T rfl rfl rfl rfl (by assumption) (by first | exact map_get _ _ (by omega) | assumption)) (Stab.cons rfl (Gd.none rfl) (by first | exact QV.load_var1 T rfl rfl rfl rfl (by repeat first | exact At.head _ _ | assumption | exact At.put (by assumption) _ | apply At.tail | apply At.app) rfl | exact QV.load_varN T rfl rfl rfl rfl rfl (by repeat first | exact At.head _ _ | assumption | exact At.put (by assumption) _ | apply At.tail | apply At.app) rfl rfl | exact QV.load_elem T rfl rfl rfl rfl (by assumption) (by first | exact map_get _ _ (by omega) | assumption)) Stab.nil))), ?_⟩
    refine RD.nv rfl rfl rfl (Gd.none rfl) ?_
    refine NV.store_var1 T rfl rfl rfl rfl (by conv => lhs; whnf) rfl (by repeat first | exact At.head _ _ | assumption | exact At.put (by assumption) _ | apply At.tail | apply At.app) rfl (by exact (rfl : _ = [_])) ?_
    refine ⟨(Stab.cons rfl (Gd.none rfl) (pev_sound T rfl) (Stab.cons rfl (Gd.none rfl) (by first | exact QV.load_var1 T rfl rfl rfl rfl (by repeat first | exact At.head _ _ | assumption | exact At.put (by assumption) _ | apply At.tail | apply At.app) rfl | exact QV.load_varN T rfl rfl rfl rfl rfl (by repeat first | exact At.head _ _ | assumption | exact At.put (by assumption) _ | apply At.tail | apply At.app) rfl rfl | exact QV.load_elem T rfl rfl rfl rfl (by assumption) (by first | exact map_get _ _ (by omega) | assumption)) Stab.nil)), ?_⟩
    refine RD.nv rfl rfl rfl (Gd.none rfl) ?_
    refine NV.store_var1 T rfl rfl rfl rfl (by conv => lhs; whnf) rfl (by repeat first | exact At.head _ _ | assumption | exact At.put (by assumption) _ | apply At.tail | apply At.app) rfl (by exact (rfl : _ = [_])) ?_
    refine ⟨(Stab.cons rfl (Gd.none rfl) (pev_sound T rfl) Stab.nil), ?_⟩
    refine RD.q rfl rfl (Gd.none rfl) (pev_sound T (by conv => lhs; whnf; arg 1; whnf)) ?_
    refine RD.k rfl rfl ?_
    refine hK6 _ _ _ ?_
    refine SW.ret ?_
    refine retQ.ret (by first | exact RVs.var1 T rfl rfl rfl (by repeat first | exact At.head _ _ | assumption | exact At.put (by assumption) _ | apply At.tail | apply At.app) rfl (by first | exact RVs.var1 T rfl rfl rfl (by repeat first | exact At.head _ _ | assumption | exact At.put (by assumption) _ | apply At.tail | apply At.app) rfl (by first | exact RVs.var1 T rfl rfl rfl (by repeat first | exact At.head _ _ | assumption | exact At.put (by assumption) _ | apply At.tail | apply At.app) rfl (RVs.tmp (by conv => lhs; whnf) RVs.nil) | exact RVs.varN T rfl rfl rfl rfl (by repeat first | exact At.head _ _ | assumption | exact At.put (by assumption) _ | apply At.tail | apply At.app) (by exact (rfl : _ = [_])) rfl (RVs.tmp (by conv => lhs; whnf) RVs.nil)) | exact RVs.varN T rfl rfl rfl rfl (by repeat first | exact At.head _ _ | assumption | exact At.put (by assumption) _ | apply At.tail | apply At.app) (by exact (rfl : _ = [_])) rfl (by first | exact RVs.var1 T rfl rfl rfl (by repeat first | exact At.head _ _ | assumption | exact At.put (by assumption) _ | apply At.tail | apply At.app) rfl (RVs.tmp (by conv => lhs; whnf) RVs.nil) | exact RVs.varN T rfl rfl rfl rfl (by repeat first | exact At.head _ _ | assumption | exact At.put (by assumption) _ | apply At.tail | apply At.app) (by exact (rfl : _ = [_])) rfl (RVs.tmp (by conv => lhs; whnf) RVs.nil))) | exact RVs.varN T rfl rfl rfl rfl (by repeat first | exact At.head _ _ | assumption | exact At.put (by assumption) _ | apply At.tail | apply At.app) (by exact (rfl : _ = [_])) rfl (by first | exact RVs.var1 T rfl rfl rfl (by repeat first | exact At.head _ _ | assumption | exact At.put (by assumption) _ | apply At.tail | apply At.app) rfl (by first | exact RVs.var1 T rfl rfl rfl (by repeat first | exact At.head _ _ | assumption | exact At.put (by assumption) _ | apply At.tail | apply At.app) rfl (RVs.tmp (by conv => lhs; whnf) RVs.nil) | exact RVs.varN T rfl rfl rfl rfl (by repeat first | exact At.head _ _ | assumption | exact At.put (by assumption) _ | apply At.tail | apply At.app) (by exact (rfl : _ = [_])) rfl (RVs.tmp (by conv => lhs; whnf) RVs.nil)) | exact RVs.varN T rfl rfl rfl rfl (by repeat first | exact At.head _ _ | assumption | exact At.put (by assumption) _ | apply At.tail | apply At.app) (by exact (rfl : _ = [_])) rfl (by first | exact RVs.var1 T rfl rfl rfl (by repeat first | exact At.head _ _ | assumption | exact At.put (by assumption) _ | apply At.tail | apply At.app) rfl (RVs.tmp (by conv => lhs; whnf) RVs.nil) | exact RVs.varN T rfl rfl rfl rfl (by repeat first | exact At.head _ _ | assumption | exact At.put (by assumption) _ | apply At.tail | apply At.app) (by exact (rfl : _ = [_])) rfl (RVs.tmp (by conv => lhs; whnf) RVs.nil)))) (fun w hw => hw) ?_
    clear hK6 K6 hK5 K5 hK3 K3 hK2 K2 hK1 K1 hK0 K0
    exact ⟨_, _, _, rfl, [_, _, _, _], rfl⟩
    )
end Go.Proofs.Ytilffbgepliamaa.M
