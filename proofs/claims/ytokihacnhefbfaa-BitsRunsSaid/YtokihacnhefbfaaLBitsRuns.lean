import Derived.Test.YtokihacnhefbfaaProg
import Derived.Test.YtokihacnhefbfaaFF1
import Derived.Test.YtokihacnhefbfaaS16
set_option linter.unusedVariables false
set_option linter.unusedSimpArgs false
namespace Go.Proofs.Ytokihacnhefbfaa.M
open Go Go.Sep Go.Proofs
set_option maxRecDepth 10000
set_option maxHeartbeats 2000000
theorem bitsRuns_no {w0 : World} {H : List Chunk} (sa : Option Addr) (n c : Nat) (es : List Int) (hR : ∀ H, Rd w0 H sa n c 1 (es.map (.int .u8))) (hn : n = es.length) (hm : n ≤ 140737488351232) (hb : Byte es) (b : Int) (h : 5000 < n) : SC Try.prog w0 3 #[.slice sa n c, .int .u8 b] H (fun v H' => v = .bool true ∧ H' = H) := by
 refine SC.enter Try.func3 rfl (Nat.le_of_ble_eq_true rfl) ?_
 refine SW.seq_k fun K0 hK0 => ?_
 refine SW.region _ _ _ _ ?_
 refine RL.p T ?_
 refine RL.nil _ _ _ _ ?_
 refine hK0 _ _ _ ?_
 refine SW.seq_k fun K1 hK1 => ?_
 refine SW.seq_k fun K2 hK2 => ?_
 refine SW.region _ _ _ _ ?_
 refine RL.c fun7 (fun hs => alive) ?_
 rintro _ _ ⟨rfl, e⟩; obtain rfl := e.symm
 refine RL.p T ?_
 refine RL.nil _ _ _ _ ?_
 refine hK2 _ _ _ ?_
 refine SW.cs (fun hc0 => ?_) (fun hc0 => ?_)
 ·skip
  first
   | (exfalso; first | omega | contradiction)
   | (
    refine SW.seq_k fun K3 hK3 => ?_
    refine SW.region _ _ _ _ ?_
    refine RL.p T ?_
    refine RL.nil _ _ _ _ ?_
    refine hK3 _ _ _ ?_
    refine SW.ret ?_
    refine retQ.rr (H) ?_
    clear hK3 K3 hK2 K2 hK1 K1 hK0 K0
    first | exact ⟨rfl, rfl⟩ | (refine ⟨boolE ?_, rfl⟩; simp; done)
    )
 ·skip
  first
   | (exfalso; first | omega | contradiction)
   | (
    refine SW.skip ?_
    refine hK1 _ _ _ ?_
    refine SW.seq_k fun K4 hK4 => ?_
    refine SW.seq_k fun K5 hK5 => ?_
    refine SW.region _ _ _ _ ?_
    refine RL.p T ?_
    refine RL.p T ?_
    refine RL.p T ?_
    refine RL.nil _ _ _ _ ?_
    refine hK5 _ _ _ ?_
    refine SW.cs (fun hc1 => ?_) (fun hc1 => ?_)
    ·skip
     first
      | (exfalso; first | omega | contradiction)
      | (
       refine SW.seq_k fun K6 hK6 => ?_
       refine SW.region _ _ _ _ ?_
       refine RL.p T ?_
       refine RL.nil _ _ _ _ ?_
       refine hK6 _ _ _ ?_
       refine SW.ret ?_
       refine retQ.rr (H) ?_
       clear hK6 K6 hK5 K5 hK4 K4 hK2 K2 hK1 K1 hK0 K0
       first | exact ⟨rfl, rfl⟩ | (refine ⟨boolE ?_, rfl⟩; simp; done)
       )
    ·skip
     exfalso; first | omega | contradiction
    )
theorem bitsRuns_ok {w0 : World} {H : List Chunk} (sa : Option Addr) (n c : Nat) (es : List Int) (hR : ∀ H, Rd w0 H sa n c 1 (es.map (.int .u8))) (hn : n = es.length) (hm : n ≤ 140737488351232) (hb : Byte es) (b m : Nat) (hb1 : b ≤ 255) (hmr : runV es = (m : Int)) (hmn : m ≤ n) (h5 : n ≤ 5000) : SC Try.prog w0 3 #[.slice sa n c, .int .u8 (b : Int)] H (fun v H' => v = .bool true ∧ H' = H) := by
 refine SC.enter Try.func3 rfl (Nat.le_of_ble_eq_true rfl) ?_
 refine SW.seq_k fun K0 hK0 => ?_
 have hRI := runV_RunI es
 rw [hmr, Int.toNat_natCast] at hRI
 have hrp := fun h => runV_pos (es := es) h
 have hnl : ¬ (m : Nat) = es.length → ¬ es.getD ((n : Int) - m - 1).toNat 0 = lastI es := fun h => by
   have := hRI.2.resolve_left h
   rwa [show ((n : Int) - m - 1).toNat = es.length - 1 - m by omega]
 refine SW.region _ _ _ _ ?_
 refine RL.p T ?_
 refine RL.nil _ _ _ _ ?_
 refine hK0 _ _ _ ?_
 refine SW.seq_k fun K1 hK1 => ?_
 refine SW.seq_k fun K2 hK2 => ?_
 refine SW.region _ _ _ _ ?_
 refine RL.c fun7 (fun hs => alive) ?_
 rintro _ _ ⟨rfl, e⟩; obtain rfl := e.symm
 refine RL.p T ?_
 refine RL.nil _ _ _ _ ?_
 refine hK2 _ _ _ ?_
 refine SW.cs (fun hc0 => ?_) (fun hc0 => ?_)
 ·skip
  first
   | (exfalso; first | omega | contradiction)
   | (
    refine SW.seq_k fun K3 hK3 => ?_
    refine SW.region _ _ _ _ ?_
    refine RL.p T ?_
    refine RL.nil _ _ _ _ ?_
    refine hK3 _ _ _ ?_
    refine SW.ret ?_
    refine retQ.rr (H) ?_
    clear hK3 K3 hK2 K2 hK1 K1 hK0 K0
    first
      | exact ⟨rfl, rfl⟩
      | (refine ⟨boolE ?_, rfl⟩
         rw [List.nil_append, runV_snoc]
         first
           | (rw [if_pos ⟨by omega, by omega⟩, hmr]; simp; done)
           | (rw [if_neg (by omega)]; simp; done))
      | (exfalso
         have hq : decide ((m : Int) = 0) = decide ((n : Int) = 0) := decide_eq_decide.2 (by omega)
         rw [hq] at hc2
         simp at hc2
         omega)
      | (exfalso; exact hnl (by omega) hc3.2)
      | (exfalso; exact hnl (by omega) hc4.2)
      | (exfalso; exact hnl (by omega) hc5.2)
      | (exfalso; exact hc3 (by assumption))
      | (trace_state; sorry)
    )
 ·skip
  first
   | (exfalso; first | omega | contradiction)
   | (
    refine SW.skip ?_
    refine hK1 _ _ _ ?_
    refine SW.seq_k fun K4 hK4 => ?_
    refine SW.seq_k fun K5 hK5 => ?_
    refine SW.region _ _ _ _ ?_
    refine RL.p T ?_
    refine RL.p T ?_
    refine RL.p T ?_
    refine RL.nil _ _ _ _ ?_
    refine hK5 _ _ _ ?_
    refine SW.cs (fun hc1 => ?_) (fun hc1 => ?_)
    ·skip
     first
      | (exfalso; first | omega | contradiction)
      | (
       refine SW.seq_k fun K6 hK6 => ?_
       refine SW.region _ _ _ _ ?_
       refine RL.p T ?_
       refine RL.nil _ _ _ _ ?_
       refine hK6 _ _ _ ?_
       refine SW.ret ?_
       refine retQ.rr (H) ?_
       clear hK6 K6 hK5 K5 hK4 K4 hK2 K2 hK1 K1 hK0 K0
       first
         | exact ⟨rfl, rfl⟩
         | (refine ⟨boolE ?_, rfl⟩
            rw [List.nil_append, runV_snoc]
            first
              | (rw [if_pos ⟨by omega, by omega⟩, hmr]; simp; done)
              | (rw [if_neg (by omega)]; simp; done))
         | (exfalso
            have hq : decide ((m : Int) = 0) = decide ((n : Int) = 0) := decide_eq_decide.2 (by omega)
            rw [hq] at hc2
            simp at hc2
            omega)
         | (exfalso; exact hnl (by omega) hc3.2)
         | (exfalso; exact hnl (by omega) hc4.2)
         | (exfalso; exact hnl (by omega) hc5.2)
         | (exfalso; exact hc3 (by assumption))
         | (trace_state; sorry)
       )
    ·skip
     first
      | (exfalso; first | omega | contradiction)
      | (
       refine SW.skip ?_
       refine hK4 _ _ _ ?_
       refine SW.seq_k fun K7 hK7 => ?_
       refine SW.region _ _ _ _ ?_
       refine RL.p T ?_
       refine RL.c fun8 (fun hs => (brun sa n c es (hR _) hn hm).mono (fun v H' h => by rw [hmr] at h; exact h)) ?_
       rintro _ _ ⟨rfl, e⟩; obtain rfl := e.symm
       refine RL.p T ?_
       refine RL.nil _ _ _ _ ?_
       refine hK7 _ _ _ ?_
       refine SW.seq_k fun K8 hK8 => ?_
       refine SW.seq_k fun K9 hK9 => ?_
       refine SW.region _ _ _ _ ?_
       refine RL.p T ?_
       refine RL.p T ?_
       refine RL.p T ?_
       refine RL.join (fr1 := ?_) 4 18 false [19, 20, 21, 22] (fun hs0 hj => ?_) ?_ ?_
       rotate_left
       ·have hs0j := hs0
        try simp only [decide_eq_true_eq, Bool.not_eq_true', decide_eq_false_iff_not, Bool.not_eq_false', Int.not_lt, Int.not_le, Int.toNat_natCast, Bool.and_eq_true, Bool.or_eq_true, Bool.and_eq_false_iff, Bool.or_eq_false_iff] at hs0
        refine RL.p T ?_
        refine RL.p T ?_
        refine RL.p T ?_
        refine RL.p T ?_
        exact hj
       ·repeat first | exact Mx.refl | exact Mx.mix | refine Mx.put rfl ?_ | refine Mx.upd rfl ?_ | refine Mx.updl rfl ?_ | refine Mx.fin rfl ?_ | refine Mx.inner rfl ?_ | refine Mx.none ?_
       refine RL.or ?_
       refine RL.p T ?_
       refine RL.join (fr1 := ?_) 6 24 false [25, 26, 27, 28, 29, 30] (fun hs1 hj => ?_) ?_ ?_
       rotate_left
       ·have hs1j := hs1
        try simp only [decide_eq_true_eq, Bool.not_eq_true', decide_eq_false_iff_not, Bool.not_eq_false', Int.not_lt, Int.not_le, Int.toNat_natCast, Bool.and_eq_true, Bool.or_eq_true, Bool.and_eq_false_iff, Bool.or_eq_false_iff] at hs1
        refine RL.p T ?_
        refine RL.p T ?_
        refine RL.p T ?_
        refine RL.p T ?_
        refine RL.p T ?_
        refine RL.p T ?_
        exact hj
       ·repeat first | exact Mx.refl | exact Mx.mix | refine Mx.put rfl ?_ | refine Mx.upd rfl ?_ | refine Mx.updl rfl ?_ | refine Mx.fin rfl ?_ | refine Mx.inner rfl ?_ | refine Mx.none ?_
       refine RL.or ?_
       refine RL.nil _ _ _ _ ?_
       refine hK9 _ _ _ ?_
       refine SW.cs (fun hc2 => ?_) (fun hc2 => ?_)
       ·skip
        first
         | (exfalso; first | omega | contradiction)
         | (
          refine SW.seq_k fun K10 hK10 => ?_
          refine SW.region _ _ _ _ ?_
          refine RL.p T ?_
          refine RL.nil _ _ _ _ ?_
          refine hK10 _ _ _ ?_
          refine SW.ret ?_
          refine retQ.rr (H) ?_
          clear hK10 K10 hK9 K9 hK8 K8 hK7 K7 hK5 K5 hK4 K4 hK2 K2 hK1 K1 hK0 K0
          first
            | exact ⟨rfl, rfl⟩
            | (refine ⟨boolE ?_, rfl⟩
               rw [List.nil_append, runV_snoc]
               first
                 | (rw [if_pos ⟨by omega, by omega⟩, hmr]; simp; done)
                 | (rw [if_neg (by omega)]; simp; done))
            | (exfalso
               have hq : decide ((m : Int) = 0) = decide ((n : Int) = 0) := decide_eq_decide.2 (by omega)
               rw [hq] at hc2
               simp at hc2
               omega)
            | (exfalso; exact hnl (by omega) hc3.2)
            | (exfalso; exact hnl (by omega) hc4.2)
            | (exfalso; exact hnl (by omega) hc5.2)
            | (exfalso; exact hc3 (by assumption))
            | (trace_state; sorry)
          )
       ·skip
        first
         | (exfalso; first | omega | contradiction)
         | (
          refine SW.skip ?_
          refine hK8 _ _ _ ?_
          refine SW.seq_k fun K11 hK11 => ?_
          refine SW.seq_k fun K12 hK12 => ?_
          refine SW.region _ _ _ _ ?_
          refine RL.p T ?_
          refine RL.p T ?_
          refine RL.p T ?_
          refine RL.p T ?_
          first | refine RL.ar ?_ | refine RL.p T ?_
          refine RL.sl T ?_ (l1 := n - m)
          refine RL.p T ?_
          refine RL.p T ?_
          refine RL.nil _ _ _ _ ?_
          refine hK12 _ _ _ ?_
          refine SW.block ?_
          refine SW.loopM (fun frB mm fr ds HH => ∃ (k : Nat) , mm = n - (n - m) - k ∧ (k ≤ n - (n - m) ∧ (True)) ∧ FrIs [4, 7, 39, 40, 41, 42, 43, 44, 45, 46, 47, 48, 49, 50, 51] frB fr [(39, .int .i64 k)] ∧ ds = [] ∧ HH = H) (n := n - (n - m) - 0) ?_ ?_
          ·exact ⟨0, rfl, ⟨Nat.zero_le _, trivial⟩, (.cons rfl (.nil (by repeat first | exact Mx.refl | exact Mx.mix | refine Mx.put rfl ?_ | refine Mx.upd rfl ?_ | refine Mx.updl rfl ?_ | refine Mx.fin rfl ?_ | refine Mx.inner rfl ?_ | refine Mx.none ?_))), rfl, rfl⟩
          ·rintro mm fr ds HH ⟨k, rfl, ⟨hk, _⟩, hFr, rfl, eHH⟩
           obtain rfl := eHH.symm
           obtain ⟨frU, rfl⟩ := hFr.eq
           clear hFr
           have hkl : k < m → (es.drop (n - m)).getD k 0 = lastI es := fun h => by
             have := hRI.1.2 (m - 1 - k) (by omega)
             rw [← this, List.getD_eq_getElem?_getD, List.getElem?_drop, ← List.getD_eq_getElem?_getD]
             congr 1; omega
           refine SW.seq_k fun K13 hK13 => ?_
           refine SW.region _ _ _ _ ?_
           refine RL.p T ?_
           refine RL.nil _ _ _ _ ?_
           refine hK13 _ _ _ ?_
           refine SW.seq_k fun K14 hK14 => ?_
           refine SW.cs (fun hc3 => ?_) (fun hc3 => ?_)
           ·skip
            first
             | (exfalso; first | omega | contradiction)
             | (
              refine SW.skip ?_
              refine hK14 _ _ _ ?_
              refine SW.seq_k fun K15 hK15 => ?_
              refine SW.block ?_
              refine SW.seq_k fun K16 hK16 => ?_
              refine SW.region _ _ _ _ ?_
              refine RL.ix T ?_ (hR := fun hs => (by first | exact hR _ | exact (hR _).suf (n - m) (by omega)))
              refine RL.le T ?_ (hR := fun hs => (by first | exact hR _ | exact (hR _).suf (n - m) (by omega))) (hv := (by first | exact map_as (by omega) (lastI_get (by omega) (by omega)) | exact map_as (by rw [List.length_drop]; omega) (hkl (by omega)) | exact map_get _ _ (by omega)))
              refine RL.p T ?_
              refine RL.nil _ _ _ _ ?_
              refine hK16 _ _ _ ?_
              refine SW.seq_k fun K17 hK17 => ?_
              refine SW.region _ _ _ _ ?_
              refine RL.p T ?_
              refine RL.p T ?_
              refine RL.p T ?_
              refine RL.p T ?_
              first | refine RL.ar ?_ | refine RL.p T ?_
              refine RL.ix T ?_ (hR := fun hs => (by first | exact hR _ | exact (hR _).suf (n - m) (by omega)))
              refine RL.le T ?_ (hR := fun hs => (by first | exact hR _ | exact (hR _).suf (n - m) (by omega))) (hv := (by first | exact map_as (by omega) (lastI_get (by omega) (by omega)) | exact map_as (by rw [List.length_drop]; omega) (hkl (by omega)) | exact map_get _ _ (by omega)))
              refine RL.p T ?_
              refine RL.nil _ _ _ _ ?_
              refine hK17 _ _ _ ?_
              refine SW.cs (fun hc4 => ?_) (fun hc4 => ?_)
              ·skip
               first
                | (exfalso; first | omega | contradiction)
                | (
                 refine SW.seq_k fun K18 hK18 => ?_
                 refine SW.region _ _ _ _ ?_
                 refine RL.p T ?_
                 refine RL.nil _ _ _ _ ?_
                 refine hK18 _ _ _ ?_
                 refine SW.ret ?_
                 refine retQ.rr (H) ?_
                 clear hK18 K18 hK17 K17 hK16 K16 hK15 K15 hK14 K14 hK13 K13 hK12 K12 hK11 K11 hK9 K9 hK8 K8 hK7 K7 hK5 K5 hK4 K4 hK2 K2 hK1 K1 hK0 K0
                 first
                   | exact ⟨rfl, rfl⟩
                   | (refine ⟨boolE ?_, rfl⟩
                      rw [List.nil_append, runV_snoc]
                      first
                        | (rw [if_pos ⟨by omega, by omega⟩, hmr]; simp; done)
                        | (rw [if_neg (by omega)]; simp; done))
                   | (exfalso
                      have hq : decide ((m : Int) = 0) = decide ((n : Int) = 0) := decide_eq_decide.2 (by omega)
                      rw [hq] at hc2
                      simp at hc2
                      omega)
                   | (exfalso; exact hnl (by omega) hc3.2)
                   | (exfalso; exact hnl (by omega) hc4.2)
                   | (exfalso; exact hnl (by omega) hc5.2)
                   | (exfalso; exact hc3 (by assumption))
                   | (trace_state; sorry)
                 )
              ·skip
               first
                | (exfalso; first | omega | contradiction)
                | (
                 refine SW.skip ?_
                 refine hK15 _ _ _ ?_
                 refine SW.region _ _ _ _ ?_
                 first | refine RL.ar ?_ | refine RL.p T ?_
                 refine RL.p T ?_
                 refine RL.nil _ _ _ _ ?_
                 exact ⟨n - (n - m) - (k + 1), (by omega), k + 1, (by rfl), ⟨by omega, trivial⟩, (.cons rfl (.nil (by repeat first | exact Mx.refl | exact Mx.mix | refine Mx.put rfl ?_ | refine Mx.upd rfl ?_ | refine Mx.updl rfl ?_ | refine Mx.fin rfl ?_ | refine Mx.inner rfl ?_ | refine Mx.none ?_))), rfl, rfl⟩
                 )
              )
           ·skip
            first
             | (exfalso; first | omega | contradiction)
             | (
              refine SW.exit ?_
              refine hK11 _ _ _ ?_
              refine SW.seq_k fun K19 hK19 => ?_
              refine SW.seq_k fun K20 hK20 => ?_
              refine SW.drawQ [(52, 0), (53, 1), (54, 2), (55, 3), (56, 4), (57, 5), (58, 6), (59, 7), (60, 8), (61, 9), (62, 10), (63, 11), (64, 12), (65, 13), (66, 14), (67, 15), (68, 16), (69, 17), (70, 18), (71, 19), (72, 20)] [[], [], [1], [0, 2, 1], [3, 0, 2, 1], [4, 3, 0, 2, 1], [4, 3, 0, 2, 1], [6, 4, 3, 0, 2, 1], [4, 3, 0, 2, 1], [7, 6, 4, 3, 0, 2, 1, 8], [9, 7, 6, 4, 3, 0, 2, 1, 8], [5, 4, 3, 0, 2, 1, 10, 9, 7, 6, 8], [11, 5, 4, 3, 0, 2, 1, 10, 9, 7, 6, 8], [4, 3, 0, 2, 1], [4, 3, 0, 2, 1], [14, 4, 3, 0, 2, 1], [15, 14, 4, 3, 0, 2, 1], [13, 4, 3, 0, 2, 1, 16, 15, 14], [17, 13, 4, 3, 0, 2, 1, 16, 15, 14], [12, 11, 5, 4, 3, 0, 2, 1, 10, 9, 7, 6, 8, 18, 17, 13, 16, 15, 14], [4, 3, 0, 2, 1, 19, 12, 11, 5, 10, 9, 7, 6, 8, 18, 17, 13, 16, 15, 14]] mixed (by kernel_rfl) (by kernel_rfl) ?_
              refine QL.p T ?_
              refine QL.p T ?_
              refine QL.p T ?_
              refine QL.p T ?_
              refine QL.p T ?_
              refine QL.join (fr1 := ?_) 15 56 true [57, 58, 59, 60, 61, 62, 63, 64, 65, 66, 67, 68, 69, 70, 71] (fun hs2 hj => ?_) ?_ ?_
              rotate_left
              ·have hs2j := hs2
               try simp only [decide_eq_true_eq, Bool.not_eq_true', decide_eq_false_iff_not, Bool.not_eq_false', Int.not_lt, Int.not_le, Int.toNat_natCast, Bool.and_eq_true, Bool.or_eq_true, Bool.and_eq_false_iff, Bool.or_eq_false_iff] at hs2
               refine QL.p T ?_
               refine QL.p T ?_
               refine QL.p T ?_
               refine QL.p T ?_
               first | refine QL.ar ?_ | refine QL.p T ?_
               first | refine QL.ar ?_ | refine QL.p T ?_
               refine QL.ix T ?_ (hR := fun hs => (by first | exact hR _ | exact (hR _).suf (n - m) (by omega)))
               refine QL.le T ?_ (hR := fun hs => (by first | exact hR _ | exact (hR _).suf (n - m) (by omega))) (hv := (by first | exact map_as (by omega) (lastI_get (by omega) (by omega)) | exact map_as (by rw [List.length_drop]; omega) (hkl (by omega)) | exact map_get _ _ (by omega)))
               refine QL.p T ?_
               refine QL.p T ?_
               refine QL.p T ?_
               first | refine QL.ar ?_ | refine QL.p T ?_
               refine QL.ix T ?_ (hR := fun hs => (by first | exact hR _ | exact (hR _).suf (n - m) (by omega)))
               refine QL.le T ?_ (hR := fun hs => (by first | exact hR _ | exact (hR _).suf (n - m) (by omega))) (hv := (by first | exact map_as (by omega) (lastI_get (by omega) (by omega)) | exact map_as (by rw [List.length_drop]; omega) (hkl (by omega)) | exact map_get _ _ (by omega)))
               refine QL.p T ?_
               exact hj
              ·repeat first | exact Mx.refl | exact Mx.mix | refine Mx.put rfl ?_ | refine Mx.upd rfl ?_ | refine Mx.updl rfl ?_ | refine Mx.fin rfl ?_ | refine Mx.inner rfl ?_ | refine Mx.none ?_
              refine QL.and ?_
              refine QL.nil ?_
              refine hK20 _ _ _ ?_
              refine SW.cs (fun hc5 => ?_) (fun hc5 => ?_)
              ·skip
               first
                | (exfalso; first | omega | contradiction)
                | (
                 refine SW.seq_k fun K21 hK21 => ?_
                 refine SW.region _ _ _ _ ?_
                 refine RL.p T ?_
                 refine RL.nil _ _ _ _ ?_
                 refine hK21 _ _ _ ?_
                 refine SW.ret ?_
                 refine retQ.rr (H) ?_
                 clear hK21 K21 hK20 K20 hK19 K19 hK14 K14 hK13 K13 hK12 K12 hK11 K11 hK9 K9 hK8 K8 hK7 K7 hK5 K5 hK4 K4 hK2 K2 hK1 K1 hK0 K0
                 first
                   | exact ⟨rfl, rfl⟩
                   | (refine ⟨boolE ?_, rfl⟩
                      rw [List.nil_append, runV_snoc]
                      first
                        | (rw [if_pos ⟨by omega, by omega⟩, hmr]; simp; done)
                        | (rw [if_neg (by omega)]; simp; done))
                   | (exfalso
                      have hq : decide ((m : Int) = 0) = decide ((n : Int) = 0) := decide_eq_decide.2 (by omega)
                      rw [hq] at hc2
                      simp at hc2
                      omega)
                   | (exfalso; exact hnl (by omega) hc3.2)
                   | (exfalso; exact hnl (by omega) hc4.2)
                   | (exfalso; exact hnl (by omega) hc5.2)
                   | (exfalso; exact hc3 (by assumption))
                   | (trace_state; sorry)
                 )
              ·skip
               first
                | (exfalso; first | omega | contradiction)
                | (
                 refine SW.skip ?_
                 refine hK19 _ _ _ ?_
                 refine SW.seq_k fun K22 hK22 => ?_
                 refine SW.region _ _ _ _ ?_
                 refine RL.bs T rfl rfl rfl (by exact (rfl : _ = some [])) (fun b73_0 => ?_)
                 refine RL.p T ?_
                 first | refine RL.apI1 (ki := .u8) T (fun a0_ c0_ => ?_) | refine RL.apI (ki := .u8) T (fun a0_ c0_ => ?_) (hR := fun hs => (by first | exact hR _ | exact (hR _).suf (n - m) (by omega))) | refine RL.apI (ki := .u8) (xs := []) T (fun a0_ c0_ => ?_) (hR := fun hs => (by first | exact hR _ | exact (hR _).suf (n - m) (by omega)))
                 refine RL.p T ?_
                 refine RL.bs T rfl rfl rfl (by exact (rfl : _ = some [_])) (fun b77_1 => ?_)
                 first | refine RL.apI1 (ki := .u8) T (fun a1_ c1_ => ?_) | refine RL.apI (ki := .u8) T (fun a1_ c1_ => ?_) (hR := fun hs => (by first | exact hR _ | exact (hR _).suf (n - m) (by omega))) | refine RL.apI (ki := .u8) (xs := []) T (fun a1_ c1_ => ?_) (hR := fun hs => (by first | exact hR _ | exact (hR _).suf (n - m) (by omega)))
                 refine RL.c fun8 (fun hs => brun _ _ _ ([] ++ es ++ [(b : Int)]) (Rd.rowh hs (At.head _ _)) (by simp; omega) (by omega)) ?_
                 rintro _ _ ⟨rfl, e⟩; obtain rfl := e.symm
                 refine RL.p T ?_
                 refine RL.nil _ _ _ _ ?_
                 refine hK22 _ _ _ ?_
                 refine SW.seq_k fun K23 hK23 => ?_
                 refine SW.seq_k fun K24 hK24 => ?_
                 refine SW.region _ _ _ _ ?_
                 refine RL.p T ?_
                 refine RL.p T ?_
                 refine RL.p T ?_
                 refine RL.p T ?_
                 refine RL.join (fr1 := ?_) 8 83 true [84, 85, 86, 87, 88, 89, 90, 91] (fun hs3 hj => ?_) ?_ ?_
                 rotate_left
                 ·have hs3j := hs3
                  try simp only [decide_eq_true_eq, Bool.not_eq_true', decide_eq_false_iff_not, Bool.not_eq_false', Int.not_lt, Int.not_le, Int.toNat_natCast, Bool.and_eq_true, Bool.or_eq_true, Bool.and_eq_false_iff, Bool.or_eq_false_iff] at hs3
                  refine RL.p T ?_
                  refine RL.p T ?_
                  refine RL.p T ?_
                  first | refine RL.ar ?_ | refine RL.p T ?_
                  refine RL.ix T ?_ (hR := fun hs => (by first | exact hR _ | exact (hR _).suf (n - m) (by omega)))
                  refine RL.le T ?_ (hR := fun hs => (by first | exact hR _ | exact (hR _).suf (n - m) (by omega))) (hv := (by first | exact map_as (by omega) (lastI_get (by omega) (by omega)) | exact map_as (by rw [List.length_drop]; omega) (hkl (by omega)) | exact map_get _ _ (by omega)))
                  refine RL.p T ?_
                  refine RL.p T ?_
                  exact hj
                 ·repeat first | exact Mx.refl | exact Mx.mix | refine Mx.put rfl ?_ | refine Mx.upd rfl ?_ | refine Mx.updl rfl ?_ | refine Mx.fin rfl ?_ | refine Mx.inner rfl ?_ | refine Mx.none ?_
                 refine RL.and ?_
                 refine RL.nil _ _ _ _ ?_
                 refine hK24 _ _ _ ?_
                 refine SW.cs (fun hc6 => ?_) (fun hc6 => ?_)
                 ·skip
                  first
                   | (exfalso; first | omega | contradiction)
                   | (
                    refine SW.seq_k fun K25 hK25 => ?_
                    refine SW.region _ _ _ _ ?_
                    refine RL.p T ?_
                    refine RL.p T ?_
                    first | refine RL.ar ?_ | refine RL.p T ?_
                    refine RL.p T ?_
                    refine RL.p T ?_
                    refine RL.nil _ _ _ _ ?_
                    refine hK25 _ _ _ ?_
                    refine SW.ret ?_
                    refine retQ.rr (H) ?_
                    clear hK25 K25 hK24 K24 hK23 K23 hK22 K22 hK20 K20 hK19 K19 hK14 K14 hK13 K13 hK12 K12 hK11 K11 hK9 K9 hK8 K8 hK7 K7 hK5 K5 hK4 K4 hK2 K2 hK1 K1 hK0 K0
                    first
                      | exact ⟨rfl, rfl⟩
                      | (refine ⟨boolE ?_, rfl⟩
                         rw [List.nil_append, runV_snoc]
                         first
                           | (rw [if_pos ⟨by omega, by omega⟩, hmr]; simp; done)
                           | (rw [if_neg (by omega)]; simp; done))
                      | (exfalso
                         have hq : decide ((m : Int) = 0) = decide ((n : Int) = 0) := decide_eq_decide.2 (by omega)
                         rw [hq] at hc2
                         simp at hc2
                         omega)
                      | (exfalso; exact hnl (by omega) hc3.2)
                      | (exfalso; exact hnl (by omega) hc4.2)
                      | (exfalso; exact hnl (by omega) hc5.2)
                      | (exfalso; exact hc3 (by assumption))
                      | (trace_state; sorry)
                    )
                 ·skip
                  first
                   | (exfalso; first | omega | contradiction)
                   | (
                    refine SW.skip ?_
                    refine hK23 _ _ _ ?_
                    refine SW.seq_k fun K26 hK26 => ?_
                    refine SW.region _ _ _ _ ?_
                    refine RL.p T ?_
                    refine RL.p T ?_
                    refine RL.p T ?_
                    refine RL.nil _ _ _ _ ?_
                    refine hK26 _ _ _ ?_
                    refine SW.ret ?_
                    refine retQ.rr (H) ?_
                    clear hK26 K26 hK24 K24 hK23 K23 hK22 K22 hK20 K20 hK19 K19 hK14 K14 hK13 K13 hK12 K12 hK11 K11 hK9 K9 hK8 K8 hK7 K7 hK5 K5 hK4 K4 hK2 K2 hK1 K1 hK0 K0
                    first
                      | exact ⟨rfl, rfl⟩
                      | (refine ⟨boolE ?_, rfl⟩
                         rw [List.nil_append, runV_snoc]
                         first
                           | (rw [if_pos ⟨by omega, by omega⟩, hmr]; simp; done)
                           | (rw [if_neg (by omega)]; simp; done))
                      | (exfalso
                         have hq : decide ((m : Int) = 0) = decide ((n : Int) = 0) := decide_eq_decide.2 (by omega)
                         rw [hq] at hc2
                         simp at hc2
                         omega)
                      | (exfalso; exact hnl (by omega) hc3.2)
                      | (exfalso; exact hnl (by omega) hc4.2)
                      | (exfalso; exact hnl (by omega) hc5.2)
                      | (exfalso; exact hc3 (by assumption))
                      | (trace_state; sorry)
                    )
                 )
              )
          )
       )
    )
theorem bitsRuns {w0 : World} {H : List Chunk} (sa : Option Addr) (n c : Nat) (es : List Int) (hR : ∀ H, Rd w0 H sa n c 1 (es.map (.int .u8))) (hn : n = es.length) (hm : n ≤ 140737488351232) (hb : Byte es) (b : Int) (b0 : 0 ≤ b) (b1 : b ≤ 255) : SC Try.prog w0 3 #[.slice sa n c, .int .u8 b] H (fun v H' => v = .bool true ∧ H' = H) := by
  by_cases h : n ≤ 5000
  · have hr := runV_range es
    obtain ⟨m, hm'⟩ : ∃ m : Nat, runV es = m := ⟨(runV es).toNat, by omega⟩
    obtain ⟨q, rfl⟩ : ∃ q : Nat, b = q := ⟨b.toNat, by omega⟩
    exact bitsRuns_ok sa n c es hR hn hm hb q m (by omega) hm' (by omega) h
  · exact bitsRuns_no sa n c es hR hn hm hb b (by omega)
end Go.Proofs.Ytokihacnhefbfaa.M
