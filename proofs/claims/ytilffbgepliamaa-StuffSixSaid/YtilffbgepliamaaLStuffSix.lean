import Derived.Test.YtilffbgepliamaaProg
import Derived.Test.YtilffbgepliamaaLStuffRuns
import Derived.Test.YtilffbgepliamaaS14
import Derived.Test.YtilffbgepliamaaP3d
import Derived.Test.YtilffbgepliamaaP1b
set_option linter.unusedVariables false
set_option linter.unusedSimpArgs false
namespace Go.Proofs.Ytilffbgepliamaa.M
open Go Go.Sep Go.Proofs
set_option maxRecDepth 10000
set_option maxHeartbeats 2000000
theorem six_no {w0 : World} {H : List Chunk} (sa : Option Addr) (n c : Nat) (es : List Int) (hR : ∀ H, Rd w0 H sa n c 1 (es.map (.int .u8))) (hn : n = es.length) (hm : n ≤ 140737488351232) (hb : Byte es) (at' : Int) (h : 2000 < n ∨ chk es ≠ 0) : SC Try.prog w0 8 #[.slice sa n c, .int .u16 at'] H (fun v H' => v = .bool true ∧ H' = H) := by
 refine SC.enter Try.func8 rfl (Nat.le_of_ble_eq_true rfl) ?_
 refine SW.seq_k fun K0 hK0 => ?_
 refine SW.region _ _ _ _ ?_
 refine RL.p T ?_
 refine RL.nil _ _ _ _ ?_
 refine hK0 _ _ _ ?_
 refine SW.seq_k fun K1 hK1 => ?_
 refine SW.seq_k fun K2 hK2 => ?_
 refine SW.region _ _ _ _ ?_
 refine RL.c fun9 (fun hs => alive) ?_
 rintro _ _ ⟨rfl, e⟩; obtain rfl := e.symm
 refine RL.p T ?_
 refine RL.nil _ _ _ _ ?_
 refine hK2 _ _ _ ?_
 refine SW.cs (fun hc0 => ?_) (fun hc0 => ?_)
 ·skip
  first
   | (exfalso; first | omega | contradiction)
   | (
    refine SW.seq_k fun K3 hK3 => ?_
    refine SW.region _ _ _ _ ?_
    refine RL.p T ?_
    refine RL.nil _ _ _ _ ?_
    refine hK3 _ _ _ ?_
    refine SW.ret ?_
    refine retQ.rr (H) ?_
    clear hK3 K3 hK2 K2 hK1 K1 hK0 K0
    first | exact ⟨rfl, rfl⟩ | (refine ⟨boolE ?_, rfl⟩; simp; done)
    )
 ·skip
  first
   | (exfalso; first | omega | contradiction)
   | (
    refine SW.skip ?_
    refine hK1 _ _ _ ?_
    refine SW.seq_k fun K4 hK4 => ?_
    refine SW.seq_k fun K5 hK5 => ?_
    refine SW.region _ _ _ _ ?_
    refine RL.p T ?_
    refine RL.p T ?_
    refine RL.p T ?_
    refine RL.p T ?_
    refine RL.join (fr1 := ?_) 3 20 false [21, 22, 23] (fun hs0 hj => ?_) ?_ ?_
    rotate_left
    ·have hs0j := hs0
     try simp only [decide_eq_true_eq, Bool.not_eq_true', decide_eq_false_iff_not, Bool.not_eq_false', Int.not_lt, Int.not_le, Int.toNat_natCast, Bool.and_eq_true, Bool.or_eq_true, Bool.and_eq_false_iff, Bool.or_eq_false_iff] at hs0
     refine RL.p T ?_
     refine RL.c fun18 (fun hs => check sa n c es (hR _) hn hm) ?_
     rintro _ _ ⟨rfl, e⟩; obtain rfl := e.symm
     refine RL.p T ?_
     exact hj
    ·repeat first | exact Mx.refl | exact Mx.mix | refine Mx.put rfl ?_ | refine Mx.upd rfl ?_ | refine Mx.updl rfl ?_ | refine Mx.fin rfl ?_ | refine Mx.inner rfl ?_ | refine Mx.none ?_
    refine RL.or ?_
    refine RL.nil _ _ _ _ ?_
    refine hK5 _ _ _ ?_
    refine SW.cs (fun hc1 => ?_) (fun hc1 => ?_)
    ·skip
     first
      | (exfalso; first | omega | contradiction)
      | (
       refine SW.seq_k fun K6 hK6 => ?_
       refine SW.region _ _ _ _ ?_
       refine RL.p T ?_
       refine RL.nil _ _ _ _ ?_
       refine hK6 _ _ _ ?_
       refine SW.ret ?_
       refine retQ.rr (H) ?_
       clear hK6 K6 hK5 K5 hK4 K4 hK2 K2 hK1 K1 hK0 K0
       first | exact ⟨rfl, rfl⟩ | (refine ⟨boolE ?_, rfl⟩; simp; done)
       )
    ·skip
     exfalso; first | omega | contradiction
    )
theorem six_ok {w0 : World} {H : List Chunk} (sa : Option Addr) (n c : Nat) (es : List Int) (hR : ∀ H, Rd w0 H sa n c 1 (es.map (.int .u8))) (hn : n = es.length) (hm : n ≤ 140737488351232) (hb : Byte es) (at' : Int) (h : n ≤ 2000) (hc : chk es = 0) : SC Try.prog w0 8 #[.slice sa n c, .int .u16 at'] H (fun v H' => v = .bool true ∧ H' = H) := by
 refine SC.enter Try.func8 rfl (Nat.le_of_ble_eq_true rfl) ?_
 refine SW.seq_k fun K0 hK0 => ?_
 refine SW.region _ _ _ _ ?_
 refine RL.p T ?_
 refine RL.nil _ _ _ _ ?_
 refine hK0 _ _ _ ?_
 refine SW.seq_k fun K1 hK1 => ?_
 refine SW.seq_k fun K2 hK2 => ?_
 refine SW.region _ _ _ _ ?_
 refine RL.c fun9 (fun hs => alive) ?_
 rintro _ _ ⟨rfl, e⟩; obtain rfl := e.symm
 refine RL.p T ?_
 refine RL.nil _ _ _ _ ?_
 refine hK2 _ _ _ ?_
 refine SW.cs (fun hc0 => ?_) (fun hc0 => ?_)
 ·skip
  first
   | (exfalso; first | omega | contradiction)
   | (
    refine SW.seq_k fun K3 hK3 => ?_
    refine SW.region _ _ _ _ ?_
    refine RL.p T ?_
    refine RL.nil _ _ _ _ ?_
    refine hK3 _ _ _ ?_
    refine SW.ret ?_
    refine retQ.rr (H) ?_
    clear hK3 K3 hK2 K2 hK1 K1 hK0 K0
    first
      | exact ⟨rfl, rfl⟩
      | (refine ⟨boolE ?_, rfl⟩; simp [hn2]; done)
      | (exfalso
         obtain ⟨i, h1, h2, h3⟩ := six_has (chk_bit hb hc) (by omega)
         exact hno i (by omega) h2 h3)
    )
 ·skip
  first
   | (exfalso; first | omega | contradiction)
   | (
    refine SW.skip ?_
    refine hK1 _ _ _ ?_
    refine SW.seq_k fun K4 hK4 => ?_
    refine SW.seq_k fun K5 hK5 => ?_
    refine SW.region _ _ _ _ ?_
    refine RL.p T ?_
    refine RL.p T ?_
    refine RL.p T ?_
    refine RL.p T ?_
    refine RL.join (fr1 := ?_) 3 20 false [21, 22, 23] (fun hs0 hj => ?_) ?_ ?_
    rotate_left
    ·have hs0j := hs0
     try simp only [decide_eq_true_eq, Bool.not_eq_true', decide_eq_false_iff_not, Bool.not_eq_false', Int.not_lt, Int.not_le, Int.toNat_natCast, Bool.and_eq_true, Bool.or_eq_true, Bool.and_eq_false_iff, Bool.or_eq_false_iff] at hs0
     refine RL.p T ?_
     refine RL.c fun18 (fun hs => (check sa n c es (hR _) hn hm).mono (fun v H' g => by rw [hc] at g; exact g)) ?_
     rintro _ _ ⟨rfl, e⟩; obtain rfl := e.symm
     refine RL.p T ?_
     exact hj
    ·repeat first | exact Mx.refl | exact Mx.mix | refine Mx.put rfl ?_ | refine Mx.upd rfl ?_ | refine Mx.updl rfl ?_ | refine Mx.fin rfl ?_ | refine Mx.inner rfl ?_ | refine Mx.none ?_
    refine RL.or ?_
    refine RL.nil _ _ _ _ ?_
    refine hK5 _ _ _ ?_
    refine SW.cs (fun hc1 => ?_) (fun hc1 => ?_)
    ·skip
     first
      | (exfalso; first | omega | contradiction)
      | (
       refine SW.seq_k fun K6 hK6 => ?_
       refine SW.region _ _ _ _ ?_
       refine RL.p T ?_
       refine RL.nil _ _ _ _ ?_
       refine hK6 _ _ _ ?_
       refine SW.ret ?_
       refine retQ.rr (H) ?_
       clear hK6 K6 hK5 K5 hK4 K4 hK2 K2 hK1 K1 hK0 K0
       first
         | exact ⟨rfl, rfl⟩
         | (refine ⟨boolE ?_, rfl⟩; simp [hn2]; done)
         | (exfalso
            obtain ⟨i, h1, h2, h3⟩ := six_has (chk_bit hb hc) (by omega)
            exact hno i (by omega) h2 h3)
       )
    ·skip
     first
      | (exfalso; first | omega | contradiction)
      | (
       refine SW.skip ?_
       refine hK4 _ _ _ ?_
       refine SW.seq_k fun K7 hK7 => ?_
       refine SW.seq_k fun K8 hK8 => ?_
       refine SW.region _ _ _ _ ?_
       refine RL.p T ?_
       refine RL.p T ?_
       refine RL.p T ?_
       refine RL.nil _ _ _ _ ?_
       refine hK8 _ _ _ ?_
       refine SW.block ?_
       refine SW.loopM (fun frB mm fr ds HH => ∃ (k : Nat) , mm = n - k ∧ (k ≤ n ∧ (True)) ∧ FrIs [4, 5, 6, 7, 27, 28, 29, 30, 31, 32, 33, 34, 35, 36, 37, 38, 39, 40, 41, 42, 43] frB fr [(27, .int .i64 k)] ∧ ds = [] ∧ HH = H) (n := n - 0) ?_ ?_
       ·exact ⟨0, rfl, ⟨Nat.zero_le _, trivial⟩, (.cons rfl (.nil (by repeat first | exact Mx.refl | exact Mx.mix | refine Mx.put rfl ?_ | refine Mx.upd rfl ?_ | refine Mx.updl rfl ?_ | refine Mx.fin rfl ?_ | refine Mx.inner rfl ?_ | refine Mx.none ?_))), rfl, rfl⟩
       ·rintro mm fr ds HH ⟨k, rfl, ⟨hk, _⟩, hFr, rfl, eHH⟩
        obtain rfl := eHH.symm
        obtain ⟨frU, rfl⟩ := hFr.eq
        clear hFr
        refine SW.seq_k fun K9 hK9 => ?_
        refine SW.region _ _ _ _ ?_
        refine RL.p T ?_
        refine RL.nil _ _ _ _ ?_
        refine hK9 _ _ _ ?_
        refine SW.seq_k fun K10 hK10 => ?_
        refine SW.cs (fun hc2 => ?_) (fun hc2 => ?_)
        ·skip
         first
          | (exfalso; first | omega | contradiction)
          | (
           refine SW.skip ?_
           refine hK10 _ _ _ ?_
           refine SW.seq_k fun K11 hK11 => ?_
           refine SW.block ?_
           refine SW.seq_k fun K12 hK12 => ?_
           refine SW.region _ _ _ _ ?_
           refine RL.p T ?_
           refine RL.p T ?_
           refine RL.nil _ _ _ _ ?_
           refine hK12 _ _ _ ?_
           refine SW.seq_k fun K13 hK13 => ?_
           refine SW.region _ _ _ _ ?_
           refine RL.p T ?_
           refine RL.p T ?_
           first | refine RL.ar ?_ | refine RL.p T ?_
           refine RL.sl T ?_ (h1 := k + 1)
           refine RL.c fun19 (fun hs => brun _ _ _ (es.take (k + 1)) ((hR _).pre (k + 1) (by omega)) (by rw [List.length_take]; omega) (by omega)) ?_
           rintro _ _ ⟨rfl, e⟩; obtain rfl := e.symm
           refine RL.p T ?_
           refine RL.nil _ _ _ _ ?_
           refine hK13 _ _ _ ?_
           refine SW.cs (fun hc3 => ?_) (fun hc3 => ?_)
           ·skip
            first
             | (exfalso; first | omega | contradiction)
             | (
              refine SW.seq_k fun K14 hK14 => ?_
              refine SW.region _ _ _ _ ?_
              refine RL.p T ?_
              refine RL.c fun13 (fun hs => (sGet sa n c es (hR _) hn hm).mono (fun v H' g => by rw [get_six hc (i := k) (by omega) (by omega)] at g; dsimp only at g; exact g)) ?_
              rintro _ _ ⟨_, rfl, a1, n1, c1, rfl, hn1, hR1, G1, e⟩; obtain rfl := e.symm; refine RL.app ?_
              refine RL.p T ?_
              refine RL.p T ?_
              refine RL.p T ?_
              refine RL.p T ?_
              refine RL.p T ?_
              refine RL.nil _ _ _ _ ?_
              refine hK14 _ _ _ ?_
              refine SW.seq_k fun K15 hK15 => ?_
              refine SW.region _ _ _ _ ?_
              refine RL.p T ?_
              refine RL.p T ?_
              refine RL.nil _ _ _ _ ?_
              refine hK15 _ _ _ ?_
              refine SW.cs (fun hc4 => ?_) (fun hc4 => ?_)
              ·skip
               first
                | (exfalso; first | omega | contradiction)
                | (
                 refine SW.seq_k fun K16 hK16 => ?_
                 refine SW.region _ _ _ _ ?_
                 refine RL.p T ?_
                 refine RL.nil _ _ _ _ ?_
                 refine hK16 _ _ _ ?_
                 refine SW.ret ?_
                 refine retQ.rr (H) ?_
                 clear hK16 K16 hK15 K15 hK14 K14 hK13 K13 hK12 K12 hK11 K11 hK10 K10 hK9 K9 hK8 K8 hK7 K7 hK5 K5 hK4 K4 hK2 K2 hK1 K1 hK0 K0
                 first
                   | exact ⟨rfl, rfl⟩
                   | (refine ⟨boolE ?_, rfl⟩; simp [hn2]; done)
                   | (exfalso
                      obtain ⟨i, h1, h2, h3⟩ := six_has (chk_bit hb hc) (by omega)
                      exact hno i (by omega) h2 h3)
                 )
              ·skip
               first
                | (exfalso; first | omega | contradiction)
                | (
                 refine SW.skip ?_
                 refine hK11 _ _ _ ?_
                 refine SW.region _ _ _ _ ?_
                 first | refine RL.ar ?_ | refine RL.p T ?_
                 refine RL.p T ?_
                 refine RL.nil _ _ _ _ ?_
                 exact ⟨n - (k + 1), (by omega), k + 1, (by rfl), ⟨by omega, trivial⟩, (.cons rfl (.nil (by repeat first | exact Mx.refl | exact Mx.mix | refine Mx.put rfl ?_ | refine Mx.upd rfl ?_ | refine Mx.updl rfl ?_ | refine Mx.fin rfl ?_ | refine Mx.inner rfl ?_ | refine Mx.none ?_))), rfl, rfl⟩
                 )
              )
           ·skip
            first
             | (exfalso; first | omega | contradiction)
             | (
              refine SW.skip ?_
              refine hK11 _ _ _ ?_
              refine SW.region _ _ _ _ ?_
              first | refine RL.ar ?_ | refine RL.p T ?_
              refine RL.p T ?_
              refine RL.nil _ _ _ _ ?_
              exact ⟨n - (k + 1), (by omega), k + 1, (by rfl), ⟨by omega, trivial⟩, (.cons rfl (.nil (by repeat first | exact Mx.refl | exact Mx.mix | refine Mx.put rfl ?_ | refine Mx.upd rfl ?_ | refine Mx.updl rfl ?_ | refine Mx.fin rfl ?_ | refine Mx.inner rfl ?_ | refine Mx.none ?_))), rfl, rfl⟩
              )
           )
        ·skip
         first
          | (exfalso; first | omega | contradiction)
          | (
           refine SW.exit ?_
           refine hK7 _ _ _ ?_
           refine SW.seq_k fun K17 hK17 => ?_
           refine SW.region _ _ _ _ ?_
           refine RL.p T ?_
           refine RL.c fun11 (fun hs => (sput sa n c es (hR _) hn hm hb).mono (fun v H' g => by rw [(put_fit hb hc (by omega)).1] at g; dsimp only at g; exact g)) ?_
           rintro _ _ ⟨s1, k1, rfl, e⟩; obtain rfl := e.symm
           refine RL.p T ?_
           refine RL.p T ?_
           refine RL.p T ?_
           refine RL.p T ?_
           refine RL.p T ?_
           refine RL.nil _ _ _ _ ?_
           refine hK17 _ _ _ ?_
           refine SW.seq_k fun K18 hK18 => ?_
           refine SW.seq_k fun K19 hK19 => ?_
           obtain ⟨_, _, _, hfit, hfb⟩ := put_fit hb hc (by omega)
           refine SW.region _ _ _ _ ?_
           refine RL.p T ?_
           refine RL.p T ?_
           refine RL.p T ?_
           refine RL.join (fr1 := ?_) 5 51 false [52, 53, 54, 55, 56] (fun hs1 hj => ?_) ?_ ?_
           rotate_left
           ·have hs1j := hs1
            try simp only [decide_eq_true_eq, Bool.not_eq_true', decide_eq_false_iff_not, Bool.not_eq_false', Int.not_lt, Int.not_le, Int.toNat_natCast, Bool.and_eq_true, Bool.or_eq_true, Bool.and_eq_false_iff, Bool.or_eq_false_iff] at hs1
            refine RL.p T ?_
            refine RL.p T ?_
            refine RL.p T ?_
            refine RL.p T ?_
            refine RL.p T ?_
            exact hj
           ·repeat first | exact Mx.refl | exact Mx.mix | refine Mx.put rfl ?_ | refine Mx.upd rfl ?_ | refine Mx.updl rfl ?_ | refine Mx.fin rfl ?_ | refine Mx.inner rfl ?_ | refine Mx.none ?_
           refine RL.or ?_
           refine RL.nil _ _ _ _ ?_
           refine hK19 _ _ _ ?_
           refine SW.cs (fun hc5 => ?_) (fun hc5 => ?_)
           ·skip
            first
             | (exfalso; first | omega | contradiction)
             | (
              refine SW.seq_k fun K20 hK20 => ?_
              refine SW.region _ _ _ _ ?_
              refine RL.p T ?_
              refine RL.p T ?_
              refine RL.p T ?_
              refine RL.nil _ _ _ _ ?_
              refine hK20 _ _ _ ?_
              refine SW.ret ?_
              refine retQ.rr (H) ?_
              clear hK20 K20 hK19 K19 hK18 K18 hK17 K17 hK10 K10 hK9 K9 hK8 K8 hK7 K7 hK5 K5 hK4 K4 hK2 K2 hK1 K1 hK0 K0
              first
                | exact ⟨rfl, rfl⟩
                | (refine ⟨boolE ?_, rfl⟩; simp [hn2]; done)
                | (exfalso
                   obtain ⟨i, h1, h2, h3⟩ := six_has (chk_bit hb hc) (by omega)
                   exact hno i (by omega) h2 h3)
              )
           ·skip
            first
             | (exfalso; first | omega | contradiction)
             | (
              refine SW.skip ?_
              refine hK18 _ _ _ ?_
              refine SW.seq_k fun K21 hK21 => ?_
              refine SW.seq_k fun K22 hK22 => ?_
              refine SW.region _ _ _ _ ?_
              refine RL.p T ?_
              refine RL.p T ?_
              refine RL.p T ?_
              refine RL.nil _ _ _ _ ?_
              refine hK22 _ _ _ ?_
              refine SW.block ?_
              refine SW.loopM (fun frB mm fr ds HH => ∃ (k : Nat) , mm = (stuffed es).length - k ∧ (k ≤ (stuffed es).length ∧ (∀ j, j < k → 5 ≤ j → runV ((stuffed es).take j) ≠ 5)) ∧ FrIs [4, 10, 11, 12, 13, 14, 62, 63, 64, 65, 66, 67, 68, 69, 70, 71, 72, 73, 74, 75, 76, 77, 78, 79, 80, 81, 82, 83, 84, 85, 86, 87, 88, 89, 90, 91, 92, 93, 94, 95, 96, 97, 98, 99, 100, 101] frB fr [(62, .int .i64 k)] ∧ ds = [] ∧ HH = (.row s1 (stuffed es).length k1 5 1 ((stuffed es).map (.int .u8)) :: H)) (n := (stuffed es).length - 0) ?_ ?_
              ·exact ⟨0, rfl, ⟨Nat.zero_le _, fun j h => absurd h (Nat.not_lt_zero _)⟩, (.cons rfl (.nil (by repeat first | exact Mx.refl | exact Mx.mix | refine Mx.put rfl ?_ | refine Mx.upd rfl ?_ | refine Mx.updl rfl ?_ | refine Mx.fin rfl ?_ | refine Mx.inner rfl ?_ | refine Mx.none ?_))), rfl, rfl⟩
              ·rintro mm fr ds HH ⟨k, rfl, ⟨hk, hno⟩, hFr, rfl, eHH⟩
               obtain rfl := eHH.symm
               obtain ⟨frU, rfl⟩ := hFr.eq
               clear hFr
               have hz := hfb k
               have hxo : xorI .u8 ((stuffed es).getD k 0) 1 = 1 - (stuffed es).getD k 0 := by
                 rcases (show (stuffed es).getD k 0 = 0 ∨ (stuffed es).getD k 0 = 1 by omega) with h | h <;> rw [h] <;> decide
               refine SW.seq_k fun K23 hK23 => ?_
               refine SW.region _ _ _ _ ?_
               refine RL.p T ?_
               refine RL.nil _ _ _ _ ?_
               refine hK23 _ _ _ ?_
               refine SW.seq_k fun K24 hK24 => ?_
               refine SW.cs (fun hc6 => ?_) (fun hc6 => ?_)
               ·skip
                first
                 | (exfalso; first | omega | contradiction)
                 | (
                  refine SW.skip ?_
                  refine hK24 _ _ _ ?_
                  refine SW.seq_k fun K25 hK25 => ?_
                  refine SW.block ?_
                  refine SW.seq_k fun K26 hK26 => ?_
                  refine SW.region _ _ _ _ ?_
                  refine RL.p T ?_
                  refine RL.p T ?_
                  refine RL.nil _ _ _ _ ?_
                  refine hK26 _ _ _ ?_
                  refine SW.seq_k fun K27 hK27 => ?_
                  refine SW.region _ _ _ _ ?_
                  refine RL.p T ?_
                  refine RL.p T ?_
                  refine RL.p T ?_
                  refine RL.join (fr1 := ?_) 5 67 true [68, 69, 70, 71, 72] (fun hs2 hj => ?_) ?_ ?_
                  rotate_left
                  ·have hs2j := hs2
                   try simp only [decide_eq_true_eq, Bool.not_eq_true', decide_eq_false_iff_not, Bool.not_eq_false', Int.not_lt, Int.not_le, Int.toNat_natCast, Bool.and_eq_true, Bool.or_eq_true, Bool.and_eq_false_iff, Bool.or_eq_false_iff] at hs2
                   refine RL.p T ?_
                   refine RL.p T ?_
                   refine RL.sl T ?_ (h1 := k)
                   refine RL.c fun19 (fun hs => brun _ _ _ ((stuffed es).take k) ((Rd.rowh hs (At.head _ _)).pre k (by omega)) (by rw [List.length_take]; omega) (by omega)) ?_
                   rintro _ _ ⟨rfl, e⟩; obtain rfl := e.symm
                   refine RL.p T ?_
                   exact hj
                  ·repeat first | exact Mx.refl | exact Mx.mix | refine Mx.put rfl ?_ | refine Mx.upd rfl ?_ | refine Mx.updl rfl ?_ | refine Mx.fin rfl ?_ | refine Mx.inner rfl ?_ | refine Mx.none ?_
                  refine RL.and ?_
                  refine RL.nil _ _ _ _ ?_
                  refine hK27 _ _ _ ?_
                  refine SW.cs (fun hc7 => ?_) (fun hc7 => ?_)
                  ·skip
                   first
                    | (exfalso; first | omega | contradiction)
                    | (
                     refine SW.seq_k fun K28 hK28 => ?_
                     refine SW.region _ _ _ _ ?_
                     refine RL.p T ?_
                     refine RL.p T ?_
                     refine RL.ix T ?_
                     refine RL.le T ?_
                     refine RL.p T ?_
                     refine RL.ix T ?_
                     refine RL.sei T ?_
                     rw [hxo]
                     have hsx := six_get hb hc (by omega) (i := k) (by omega) (by omega)
                     refine RL.nil _ _ _ _ ?_
                     refine hK28 _ _ _ ?_
                     refine SW.seq_k fun K29 hK29 => ?_
                     refine SW.region _ _ _ _ ?_
                     refine RL.p T ?_
                     refine RL.c fun13 (fun hs => (sGet s1 (stuffed es).length k1 ((stuffed es).set k (1 - (stuffed es).getD k 0)) (Rd.rowh hs (At.head _ _)) (by simp) (by omega)).mono (fun v H' g => by rw [hsx.1] at g; dsimp only at g; exact g)) ?_
                     rintro _ _ ⟨_, rfl, a2, n2, c2, rfl, hn2, hR2, G2, e⟩; obtain rfl := e.symm; simp only [List.length_nil] at hn2; refine RL.app ?_
                     refine RL.p T ?_
                     refine RL.p T ?_
                     refine RL.p T ?_
                     refine RL.p T ?_
                     refine RL.p T ?_
                     refine RL.nil _ _ _ _ ?_
                     refine hK29 _ _ _ ?_
                     refine SW.seq_k fun K30 hK30 => ?_
                     refine SW.region _ _ _ _ ?_
                     refine RL.p T ?_
                     refine RL.c fun15 (fun hs => (sCnt s1 (stuffed es).length k1 ((stuffed es).set k (1 - (stuffed es).getD k 0)) (Rd.rowh hs (At.head _ _)) (by simp) (by omega)).mono (fun v H' g => by rw [hsx.2] at g; dsimp only at g; exact g)) ?_
                     rintro _ _ ⟨rfl, G3, e⟩; obtain rfl := e.symm; refine RL.app ?_
                     refine RL.p T ?_
                     refine RL.p T ?_
                     refine RL.p T ?_
                     refine RL.p T ?_
                     refine RL.p T ?_
                     refine RL.nil _ _ _ _ ?_
                     refine hK30 _ _ _ ?_
                     refine SW.seq_k fun K31 hK31 => ?_
                     refine SW.region _ _ _ _ ?_
                     refine RL.p T ?_
                     refine RL.p T ?_
                     refine RL.p T ?_
                     refine RL.join (fr1 := ?_) 2 92 true [93, 94] (fun hs3 hj => ?_) ?_ ?_
                     rotate_left
                     ·have hs3j := hs3
                      try simp only [decide_eq_true_eq, Bool.not_eq_true', decide_eq_false_iff_not, Bool.not_eq_false', Int.not_lt, Int.not_le, Int.toNat_natCast, Bool.and_eq_true, Bool.or_eq_true, Bool.and_eq_false_iff, Bool.or_eq_false_iff] at hs3
                      refine RL.p T ?_
                      refine RL.p T ?_
                      exact hj
                     ·repeat first | exact Mx.refl | exact Mx.mix | refine Mx.put rfl ?_ | refine Mx.upd rfl ?_ | refine Mx.updl rfl ?_ | refine Mx.fin rfl ?_ | refine Mx.inner rfl ?_ | refine Mx.none ?_
                     refine RL.and ?_
                     refine RL.p T ?_
                     refine RL.join (fr1 := ?_) 3 96 true [97, 98, 99] (fun hs4 hj => ?_) ?_ ?_
                     rotate_left
                     ·have hs4j := hs4
                      try simp only [decide_eq_true_eq, Bool.not_eq_true', decide_eq_false_iff_not, Bool.not_eq_false', Int.not_lt, Int.not_le, Int.toNat_natCast, Bool.and_eq_true, Bool.or_eq_true, Bool.and_eq_false_iff, Bool.or_eq_false_iff] at hs4
                      refine RL.p T ?_
                      refine RL.p T ?_
                      refine RL.p T ?_
                      exact hj
                     ·repeat first | exact Mx.refl | exact Mx.mix | refine Mx.put rfl ?_ | refine Mx.upd rfl ?_ | refine Mx.updl rfl ?_ | refine Mx.fin rfl ?_ | refine Mx.inner rfl ?_ | refine Mx.none ?_
                     refine RL.and ?_
                     refine RL.p T ?_
                     refine RL.nil _ _ _ _ ?_
                     refine hK31 _ _ _ ?_
                     refine SW.ret ?_
                     refine retQ.rr (H) ?_
                     clear hK31 K31 hK30 K30 hK29 K29 hK28 K28 hK27 K27 hK26 K26 hK25 K25 hK24 K24 hK23 K23 hK22 K22 hK21 K21 hK19 K19 hK18 K18 hK17 K17 hK10 K10 hK9 K9 hK8 K8 hK7 K7 hK5 K5 hK4 K4 hK2 K2 hK1 K1 hK0 K0
                     first
                       | exact ⟨rfl, rfl⟩
                       | (refine ⟨boolE ?_, rfl⟩; simp [hn2]; done)
                       | (exfalso
                          obtain ⟨i, h1, h2, h3⟩ := six_has (chk_bit hb hc) (by omega)
                          exact hno i (by omega) h2 h3)
                     )
                  ·skip
                   first
                    | (exfalso; first | omega | contradiction)
                    | (
                     refine SW.skip ?_
                     refine hK25 _ _ _ ?_
                     refine SW.region _ _ _ _ ?_
                     first | refine RL.ar ?_ | refine RL.p T ?_
                     refine RL.p T ?_
                     refine RL.nil _ _ _ _ ?_
                     exact ⟨(stuffed es).length - (k + 1), (by omega), k + 1, (by rfl), ⟨by omega, fun j hj h5 => by
                       rcases Nat.lt_or_ge j k with h | h
                       · exact hno j h h5
                       · obtain rfl : j = k := by omega
                         omega⟩, (.cons rfl (.nil (by repeat first | exact Mx.refl | exact Mx.mix | refine Mx.put rfl ?_ | refine Mx.upd rfl ?_ | refine Mx.updl rfl ?_ | refine Mx.fin rfl ?_ | refine Mx.inner rfl ?_ | refine Mx.none ?_))), rfl, rfl⟩
                     )
                  )
               ·skip
                first
                 | (exfalso; first | omega | contradiction)
                 | (
                  refine SW.exit ?_
                  refine hK21 _ _ _ ?_
                  refine SW.seq_k fun K32 hK32 => ?_
                  refine SW.region _ _ _ _ ?_
                  refine RL.p T ?_
                  refine RL.nil _ _ _ _ ?_
                  refine hK32 _ _ _ ?_
                  refine SW.ret ?_
                  refine retQ.rr (H) ?_
                  clear hK32 K32 hK24 K24 hK23 K23 hK22 K22 hK21 K21 hK19 K19 hK18 K18 hK17 K17 hK10 K10 hK9 K9 hK8 K8 hK7 K7 hK5 K5 hK4 K4 hK2 K2 hK1 K1 hK0 K0
                  first
                    | exact ⟨rfl, rfl⟩
                    | (refine ⟨boolE ?_, rfl⟩; simp [hn2]; done)
                    | (exfalso
                       obtain ⟨i, h1, h2, h3⟩ := six_has (chk_bit hb hc) (by omega)
                       exact hno i (by omega) h2 h3)
                  )
              )
           )
       )
    )
theorem stuffSix {w0 : World} {H : List Chunk} (sa : Option Addr) (n c : Nat) (es : List Int) (hR : ∀ H, Rd w0 H sa n c 1 (es.map (.int .u8))) (hn : n = es.length) (hm : n ≤ 140737488351232) (hb : Byte es) (at' : Int) : SC Try.prog w0 8 #[.slice sa n c, .int .u16 at'] H (fun v H' => v = .bool true ∧ H' = H) := by
  by_cases h : n ≤ 2000 ∧ chk es = 0
  · exact six_ok sa n c es hR hn hm hb at' h.1 h.2
  · exact six_no sa n c es hR hn hm hb at' (by omega)
end Go.Proofs.Ytilffbgepliamaa.M
