import Derived.Test.YtmdmlhhhaidebaaProg
import Derived.Test.YtmdmlhhhaidebaaFG2
set_option linter.unusedVariables false
set_option linter.unusedSimpArgs false
namespace Go.Proofs.Ytmdmlhhhaidebaa.M
open Go Go.Sep Go.Proofs
set_option maxRecDepth 10000
set_option maxHeartbeats 2000000
theorem moreV_zero {m : Int} {s : Nat} {es : List Int} (h : (moreV m s es).2 = 0) : kz m ≠ 0 ∧ chk es = 0 ∧ s < 2 ^ kz m := by
  by_cases hb : kz m = 0 ∨ chk es ≠ 0 ∨ 2 ^ kz m ≤ s
  · rw [moreV_bad hb] at h; cases h
  · omega
theorem moreV_err {m : Int} {es : List Int} (h : (moreV m (ks m) es).2 ≠ 0) : moreV m (ks m) es = (0, 2) ∧ (kz m = 0 ∨ chk es ≠ 0) := by
  by_cases hb : kz m = 0 ∨ chk es ≠ 0 ∨ 2 ^ kz m ≤ ks m
  · refine ⟨moreV_bad hb, ?_⟩
    by_cases hk : kz m = 0
    · exact .inl hk
    · have := (kind_ok m hk).s; omega
  · rw [moreV_ok (by omega) (by omega) (by omega)] at h; exact absurd rfl h
theorem crcGoes {w0 : World} {H : List Chunk} (m : Int) (sa : Option Addr) (n c : Nat) (es : List Int) (hR : Rd w0 H sa n c 1 (es.map (.int .u8))) (hn : n = es.length) (hm : n ≤ 140737488351232) (hB : Byte es) (q : Nat) (hq : q ≤ 65535) : SC Try.prog w0 5 #[.int .i64 m, .slice sa n c, .int .u16 (q : Nat)] H (fun v H' => v = .bool true ∧ H' = H) := by
 refine SC.enter Try.func5 rfl (Nat.le_of_ble_eq_true rfl) ?_
 refine SW.seq_k fun K0 hK0 => ?_
 refine SW.region _ _ _ _ ?_
 refine RL.p T ?_
 refine RL.nil _ _ _ _ ?_
 refine hK0 _ _ _ ?_
 refine SW.seq_k fun K1 hK1 => ?_
 refine SW.seq_k fun K2 hK2 => ?_
 refine SW.region _ _ _ _ ?_
 refine RL.c fun9 (fun hs => alive) ?_
 rintro _ _ ⟨rfl, e⟩; obtain rfl := e.symm
 refine RL.p T ?_
 refine RL.nil _ _ _ _ ?_
 refine hK2 _ _ _ ?_
 refine SW.cs (fun hc0 => ?_) (fun hc0 => ?_)
 ·skip
  first
   | (exfalso; first | omega | contradiction | (simp at *; done))
   | (
    refine SW.seq_k fun K3 hK3 => ?_
    refine SW.region _ _ _ _ ?_
    refine RL.p T ?_
    refine RL.nil _ _ _ _ ?_
    refine hK3 _ _ _ ?_
    refine SW.ret ?_
    refine retQ.rr (H) ?_
    clear hK3 K3 hK2 K2 hK1 K1 hK0 K0
    first
      | exact ⟨rfl, rfl⟩
      | (refine ⟨boolE ?_, rfl⟩
         rcases hor with h | h <;> simp [h]; done)
      | (refine ⟨boolE ?_, rfl⟩
         simp [crcN])
    )
 ·skip
  first
   | (exfalso; first | omega | contradiction | (simp at *; done))
   | (
    refine SW.skip ?_
    refine hK1 _ _ _ ?_
    refine SW.seq_k fun K4 hK4 => ?_
    refine SW.seq_k fun K5 hK5 => ?_
    refine SW.region _ _ _ _ ?_
    refine RL.p T ?_
    refine RL.c fun10 (fun hs => good sa n c) ?_
    rintro _ _ ⟨rfl, e⟩; obtain rfl := e.symm
    refine RL.p T ?_
    refine RL.nil _ _ _ _ ?_
    refine hK5 _ _ _ ?_
    refine SW.cs (fun hc1 => ?_) (fun hc1 => ?_)
    ·skip
     first
      | (exfalso; first | omega | contradiction | (simp at *; done))
      | (
       refine SW.seq_k fun K6 hK6 => ?_
       refine SW.region _ _ _ _ ?_
       refine RL.p T ?_
       refine RL.nil _ _ _ _ ?_
       refine hK6 _ _ _ ?_
       refine SW.ret ?_
       refine retQ.rr (H) ?_
       clear hK6 K6 hK5 K5 hK4 K4 hK2 K2 hK1 K1 hK0 K0
       first
         | exact ⟨rfl, rfl⟩
         | (refine ⟨boolE ?_, rfl⟩
            rcases hor with h | h <;> simp [h]; done)
         | (refine ⟨boolE ?_, rfl⟩
            simp [crcN])
       )
    ·skip
     first
      | (exfalso; first | omega | contradiction | (simp at *; done))
      | (
       refine SW.skip ?_
       refine hK4 _ _ _ ?_
       refine SW.seq_k fun K7 hK7 => ?_
       refine SW.region _ _ _ _ ?_
       refine RL.p T ?_
       refine RL.p T ?_
       refine RL.c fun11 (fun hs => csum m sa n c es hR hn hm hB) ?_
       rintro _ _ ⟨rfl, e⟩; obtain rfl := e.symm
       refine RL.p T ?_
       refine RL.p T ?_
       refine RL.p T ?_
       refine RL.p T ?_
       refine RL.p T ?_
       refine RL.nil _ _ _ _ ?_
       refine hK7 _ _ _ ?_
       refine SW.seq_k fun K8 hK8 => ?_
       refine SW.seq_k fun K9 hK9 => ?_
       refine SW.region _ _ _ _ ?_
       refine RL.p T ?_
       refine RL.p T ?_
       refine RL.nil _ _ _ _ ?_
       refine hK9 _ _ _ ?_
       refine SW.cs (fun hc2 => ?_) (fun hc2 => ?_)
       ·skip
        first
         | (exfalso; first | omega | contradiction | (simp at *; done))
         | (
          refine SW.seq_k fun K10 hK10 => ?_
          obtain ⟨hme, hor⟩ := moreV_err (m := m) (es := es) (by omega)
          rw [hme]
          refine SW.region _ _ _ _ ?_
          refine RL.p T ?_
          refine RL.p T ?_
          refine RL.p T ?_
          refine RL.join (fr1 := ?_) 2 31 true [32, 33] (fun hs0 hj => ?_) ?_ ?_
          rotate_left
          ·have hs0j := hs0
           try simp only [decide_eq_true_eq, Bool.not_eq_true', decide_eq_false_iff_not, Bool.not_eq_false', Int.not_lt, Int.not_le, Int.toNat_natCast, Bool.and_eq_true, Bool.or_eq_true, Bool.and_eq_false_iff, Bool.or_eq_false_iff] at hs0
           refine RL.p T ?_
           refine RL.p T ?_
           exact hj
          ·repeat first | exact Mx.refl | exact Mx.mix | refine Mx.put rfl ?_ | refine Mx.upd rfl ?_ | refine Mx.updl rfl ?_ | refine Mx.fin rfl ?_ | refine Mx.inner rfl ?_ | refine Mx.none ?_
          refine RL.and ?_
          refine RL.p T ?_
          refine RL.join (fr1 := ?_) 8 35 true [36, 37, 38, 39, 40, 41, 42, 43] (fun hs1 hj => ?_) ?_ ?_
          rotate_left
          ·have hs1j := hs1
           try simp only [decide_eq_true_eq, Bool.not_eq_true', decide_eq_false_iff_not, Bool.not_eq_false', Int.not_lt, Int.not_le, Int.toNat_natCast, Bool.and_eq_true, Bool.or_eq_true, Bool.and_eq_false_iff, Bool.or_eq_false_iff] at hs1
           refine RL.p T ?_
           refine RL.c fun16 (fun hs => csize m) ?_
           rintro _ _ ⟨rfl, e⟩; obtain rfl := e.symm
           refine RL.p T ?_
           refine RL.p T ?_
           refine RL.join (fr1 := ?_) 3 39 false [40, 41, 42] (fun hs2 hj => ?_) ?_ ?_
           rotate_left
           ·have hs2j := hs2
            try simp only [decide_eq_true_eq, Bool.not_eq_true', decide_eq_false_iff_not, Bool.not_eq_false', Int.not_lt, Int.not_le, Int.toNat_natCast, Bool.and_eq_true, Bool.or_eq_true, Bool.and_eq_false_iff, Bool.or_eq_false_iff] at hs2
            refine RL.p T ?_
            refine RL.c fun22 (fun hs => check sa n c es hR hn hm) ?_
            rintro _ _ ⟨rfl, e⟩; obtain rfl := e.symm
            refine RL.p T ?_
            exact hj
           ·repeat first | exact Mx.refl | exact Mx.mix | refine Mx.put rfl ?_ | refine Mx.upd rfl ?_ | refine Mx.updl rfl ?_ | refine Mx.fin rfl ?_ | refine Mx.inner rfl ?_ | refine Mx.none ?_
           refine RL.or ?_
           exact hj
          ·repeat first | exact Mx.refl | exact Mx.mix | refine Mx.put rfl ?_ | refine Mx.upd rfl ?_ | refine Mx.updl rfl ?_ | refine Mx.fin rfl ?_ | refine Mx.inner rfl ?_ | refine Mx.none ?_
          refine RL.and ?_
          refine RL.p T ?_
          refine RL.nil _ _ _ _ ?_
          refine hK10 _ _ _ ?_
          refine SW.ret ?_
          refine retQ.rr (H) ?_
          clear hK10 K10 hK9 K9 hK8 K8 hK7 K7 hK5 K5 hK4 K4 hK2 K2 hK1 K1 hK0 K0
          first
            | exact ⟨rfl, rfl⟩
            | (refine ⟨boolE ?_, rfl⟩
               rcases hor with h | h <;> simp [h]; done)
            | (refine ⟨boolE ?_, rfl⟩
               simp [crcN])
          )
       ·skip
        first
         | (exfalso; first | omega | contradiction | (simp at *; done))
         | (
          refine SW.skip ?_
          refine hK8 _ _ _ ?_
          refine SW.seq_k fun K11 hK11 => ?_
          obtain ⟨hk0, hc, hks⟩ := moreV_zero (m := m) (s := ks m) (es := es) (by omega)
          have hKO := kind_ok m hk0
          have hkm := kind_max m
          have h32 : 2 ^ kz m ≤ 2 ^ 32 := Nat.pow_le_pow_right (by omega) hkm
          rw [moreV_ok hk0 hc hks]
          have hkn : q % (n + 1) ≤ n := by have := Nat.mod_lt q (by omega : n + 1 > 0); omega
          refine SW.region _ _ _ _ ?_
          refine RL.p T ?_
          first | refine RL.cv T ?_ | refine RL.p T ?_ | refine RL.ts T ?_
          refine RL.p T ?_
          refine RL.p T ?_
          first | refine RL.ar ?_ | refine RL.p T ?_
          refine RL.q (QV.as (QV.remP (b := (n : Int) + 1) rfl rfl rfl (by omega) (by omega)) (show Value.int .i64 ((q : Int) % ((n : Int) + 1)) = .int .i64 ((q % (n + 1) : Nat) : Int) from by rw [Int.natCast_emod]; rfl)) ?_
          generalize q % (n + 1) = k at hkn ⊢
          have hpre := hR.pre k hkn
          have hsuf := hR.suf k hkn
          have hl1 : (es.take k).length = k - 0 := by rw [List.length_take]; omega
          have hl2 : (es.drop k).length = n - k := by rw [List.length_drop, hn]
          have hS1 := crcN_lt hKO.p (es.take k) _ hks
          have hS2 := crcN_lt hKO.p es _ hks
          refine RL.p T ?_
          refine RL.nil _ _ _ _ ?_
          refine hK11 _ _ _ ?_
          refine SW.seq_k fun K12 hK12 => ?_
          refine SW.region _ _ _ _ ?_
          refine RL.p T ?_
          refine RL.p T ?_
          refine RL.p T ?_
          refine RL.sl T ?_ (h1 := k)
          refine RL.c fun11 (fun hs => ((csum m _ _ _ (es.take k) hpre hl1.symm (by omega) (hB.take _)).mono (fun v H' hh => by rw [moreV_ok hk0 (chk_take hc) hks] at hh; exact hh))) ?_
          rintro _ _ ⟨rfl, e⟩; obtain rfl := e.symm
          refine RL.p T ?_
          refine RL.p T ?_
          refine RL.p T ?_
          refine RL.p T ?_
          refine RL.p T ?_
          refine RL.nil _ _ _ _ ?_
          refine hK12 _ _ _ ?_
          refine SW.seq_k fun K13 hK13 => ?_
          refine SW.region _ _ _ _ ?_
          refine RL.p T ?_
          refine RL.p T ?_
          refine RL.p T ?_
          refine RL.p T ?_
          refine RL.sl T ?_ (l1 := k)
          refine RL.c fun13 (fun hs => ((more m (crcN (kz m) (kp m) (ks m) (es.take k)) (by omega) _ _ _ (es.drop k) hsuf hl2.symm (by omega) (hB.drop _)).mono (fun v H' hh => by rw [moreV_ok hk0 (chk_drop hc) hS1, ← crcN_append, List.take_append_drop] at hh; exact hh))) ?_
          rintro _ _ ⟨rfl, e⟩; obtain rfl := e.symm
          refine RL.p T ?_
          refine RL.p T ?_
          refine RL.p T ?_
          refine RL.p T ?_
          refine RL.p T ?_
          refine RL.nil _ _ _ _ ?_
          refine hK13 _ _ _ ?_
          refine SW.seq_k fun K14 hK14 => ?_
          refine SW.region _ _ _ _ ?_
          refine RL.p T ?_
          refine RL.p T ?_
          refine RL.c fun13 (fun hs => ((more m (crcN (kz m) (kp m) (ks m) es) (by omega) none 0 0 [] Rd.nilS rfl (by omega) Byte.nil).mono (fun v H' hh => by rw [moreV_ok hk0 (by decide) hS2] at hh; exact hh))) ?_
          rintro _ _ ⟨rfl, e⟩; obtain rfl := e.symm
          refine RL.p T ?_
          refine RL.p T ?_
          refine RL.p T ?_
          refine RL.p T ?_
          refine RL.p T ?_
          refine RL.nil _ _ _ _ ?_
          refine hK14 _ _ _ ?_
          refine SW.seq_k fun K15 hK15 => ?_
          refine SW.region _ _ _ _ ?_
          refine RL.p T ?_
          refine RL.p T ?_
          refine RL.p T ?_
          refine RL.join (fr1 := ?_) 2 76 true [77, 78] (fun hs3 hj => ?_) ?_ ?_
          rotate_left
          ·have hs3j := hs3
           try simp only [decide_eq_true_eq, Bool.not_eq_true', decide_eq_false_iff_not, Bool.not_eq_false', Int.not_lt, Int.not_le, Int.toNat_natCast, Bool.and_eq_true, Bool.or_eq_true, Bool.and_eq_false_iff, Bool.or_eq_false_iff] at hs3
           refine RL.p T ?_
           refine RL.p T ?_
           exact hj
          ·repeat first | exact Mx.refl | exact Mx.mix | refine Mx.put rfl ?_ | refine Mx.upd rfl ?_ | refine Mx.updl rfl ?_ | refine Mx.fin rfl ?_ | refine Mx.inner rfl ?_ | refine Mx.none ?_
          refine RL.and ?_
          refine RL.p T ?_
          refine RL.join (fr1 := ?_) 2 80 true [81, 82] (fun hs4 hj => ?_) ?_ ?_
          rotate_left
          ·have hs4j := hs4
           try simp only [decide_eq_true_eq, Bool.not_eq_true', decide_eq_false_iff_not, Bool.not_eq_false', Int.not_lt, Int.not_le, Int.toNat_natCast, Bool.and_eq_true, Bool.or_eq_true, Bool.and_eq_false_iff, Bool.or_eq_false_iff] at hs4
           refine RL.p T ?_
           refine RL.p T ?_
           exact hj
          ·repeat first | exact Mx.refl | exact Mx.mix | refine Mx.put rfl ?_ | refine Mx.upd rfl ?_ | refine Mx.updl rfl ?_ | refine Mx.fin rfl ?_ | refine Mx.inner rfl ?_ | refine Mx.none ?_
          refine RL.and ?_
          refine RL.p T ?_
          refine RL.join (fr1 := ?_) 3 84 true [85, 86, 87] (fun hs5 hj => ?_) ?_ ?_
          rotate_left
          ·have hs5j := hs5
           try simp only [decide_eq_true_eq, Bool.not_eq_true', decide_eq_false_iff_not, Bool.not_eq_false', Int.not_lt, Int.not_le, Int.toNat_natCast, Bool.and_eq_true, Bool.or_eq_true, Bool.and_eq_false_iff, Bool.or_eq_false_iff] at hs5
           refine RL.p T ?_
           refine RL.p T ?_
           refine RL.p T ?_
           exact hj
          ·repeat first | exact Mx.refl | exact Mx.mix | refine Mx.put rfl ?_ | refine Mx.upd rfl ?_ | refine Mx.updl rfl ?_ | refine Mx.fin rfl ?_ | refine Mx.inner rfl ?_ | refine Mx.none ?_
          refine RL.and ?_
          refine RL.p T ?_
          refine RL.join (fr1 := ?_) 3 89 true [90, 91, 92] (fun hs6 hj => ?_) ?_ ?_
          rotate_left
          ·have hs6j := hs6
           try simp only [decide_eq_true_eq, Bool.not_eq_true', decide_eq_false_iff_not, Bool.not_eq_false', Int.not_lt, Int.not_le, Int.toNat_natCast, Bool.and_eq_true, Bool.or_eq_true, Bool.and_eq_false_iff, Bool.or_eq_false_iff] at hs6
           refine RL.p T ?_
           refine RL.p T ?_
           refine RL.p T ?_
           exact hj
          ·repeat first | exact Mx.refl | exact Mx.mix | refine Mx.put rfl ?_ | refine Mx.upd rfl ?_ | refine Mx.updl rfl ?_ | refine Mx.fin rfl ?_ | refine Mx.inner rfl ?_ | refine Mx.none ?_
          refine RL.and ?_
          refine RL.p T ?_
          refine RL.join (fr1 := ?_) 6 94 true [95, 96, 97, 98, 99, 100] (fun hs7 hj => ?_) ?_ ?_
          rotate_left
          ·have hs7j := hs7
           try simp only [decide_eq_true_eq, Bool.not_eq_true', decide_eq_false_iff_not, Bool.not_eq_false', Int.not_lt, Int.not_le, Int.toNat_natCast, Bool.and_eq_true, Bool.or_eq_true, Bool.and_eq_false_iff, Bool.or_eq_false_iff] at hs7
           refine RL.p T ?_
           refine RL.p T ?_
           refine RL.c fun16 (fun hs => csize m) ?_
           rintro _ _ ⟨rfl, e⟩; obtain rfl := e.symm
           first | refine RL.cv T ?_ | refine RL.p T ?_ | refine RL.ts T ?_
           refine RL.q (QV.shrN (s := kz m) rfl rfl rfl rfl (by omega)) ?_
           rw [Nat.div_eq_of_lt hS2]
           refine RL.p T ?_
           exact hj
          ·repeat first | exact Mx.refl | exact Mx.mix | refine Mx.put rfl ?_ | refine Mx.upd rfl ?_ | refine Mx.updl rfl ?_ | refine Mx.fin rfl ?_ | refine Mx.inner rfl ?_ | refine Mx.none ?_
          refine RL.and ?_
          refine RL.p T ?_
          refine RL.nil _ _ _ _ ?_
          refine hK15 _ _ _ ?_
          refine SW.ret ?_
          refine retQ.rr (H) ?_
          clear hK15 K15 hK14 K14 hK13 K13 hK12 K12 hK11 K11 hK9 K9 hK8 K8 hK7 K7 hK5 K5 hK4 K4 hK2 K2 hK1 K1 hK0 K0
          first
            | exact ⟨rfl, rfl⟩
            | (refine ⟨boolE ?_, rfl⟩
               rcases hor with h | h <;> simp [h]; done)
            | (refine ⟨boolE ?_, rfl⟩
               simp [crcN])
          )
       )
    )
theorem crcGoesI {w0 : World} {H : List Chunk} (m : Int) (sa : Option Addr) (n c : Nat) (es : List Int) (hR : ∀ H, Rd w0 H sa n c 1 (es.map (.int .u8))) (hn : n = es.length) (hm : n ≤ 140737488351232) (hB : Byte es) (s : Int) (h0 : 0 ≤ s) (h1 : s ≤ 65535) : SC Try.prog w0 5 #[.int .i64 m, .slice sa n c, .int .u16 s] H (fun v H' => v = .bool true ∧ H' = H) := by
  obtain ⟨k, rfl⟩ := Int.eq_ofNat_of_zero_le h0
  exact crcGoes m sa n c es (hR _) hn hm hB k (by omega)
end Go.Proofs.Ytmdmlhhhaidebaa.M
