import Derived.Test.YthigfghfpmpiiaaDoorProg
import Derived.Test.YthigfghfpmpiiaaDoorFA20E
import Derived.Test.YthigfghfpmpiiaaDoorP20
import Derived.Test.YthigfghfpmpiiaaDoorS25
set_option linter.unusedVariables false
set_option linter.unusedSimpArgs false
namespace Go.Proofs.YthigfghfpmpiiaaDoor.M
open Go Go.Sep Go.Proofs
set_option maxRecDepth 10000
set_option maxHeartbeats 2000000
theorem pfrom {w0 : World} {H : List Chunk} (ps : List Pd) (sr : Option Addr) (nr cr : Nat) (hB : Rd w0 H sr nr cr 2 (ps.flatMap PdC)) (hnr : nr = ps.length) (hmr : nr ≤ 4398046511000) (hps : ∀ k, PdOk w0 H (ps.getD k default)) : SC Tryd.prog w0 15 #[.slice sr nr cr] H (fun v H' => ∃ a c, v = .slice a nr c ∧ H' = .row a nr c 35 2 (ps.flatMap PdC) :: H) := by
 refine SC.enter Tryd.func15 rfl (Nat.le_of_ble_eq_true rfl) ?_
 refine SW.seq_k fun K0 hK0 => ?_
 refine SW.region _ _ _ _ ?_
 refine RL.p T ?_
 refine RL.nil _ _ _ _ ?_
 refine hK0 _ _ _ ?_
 refine SW.seq_k fun K1 hK1 => ?_
 refine SW.region _ _ _ _ ?_
 refine RL.nilrow 35 2 ?_
 refine RL.p T ?_
 refine RL.nil _ _ _ _ ?_
 refine hK1 _ _ _ ?_
 refine SW.seq_k fun K2 hK2 => ?_
 refine SW.seq_k fun K3 hK3 => ?_
 refine SW.region _ _ _ _ ?_
 refine RL.p T ?_
 refine RL.p T ?_
 refine RL.p T ?_
 refine RL.nil _ _ _ _ ?_
 refine hK3 _ _ _ ?_
 refine SW.block ?_
 refine SW.loopM (fun frB mm fr ds HH => ∃ (k : Nat) (a : Option Addr) (c : Nat), mm = nr - k ∧ (k ≤ nr) ∧ FrIs [3, 5, 8, 9, 10, 11, 12, 13, 14, 15, 16] frB fr [(3, .slice a k c), (8, .int .i64 k)] ∧ ds = [] ∧ HH = (.row a k c 35 2 ((ps.take k).flatMap PdC) :: H)) (n := nr - 0) ?_ ?_
 ·exact ⟨0, none, 0, rfl, Nat.zero_le _, (.cons rfl (.consI rfl (by first | omega | rfl) (.nil (by repeat first | with_reducible exact Mx.refl | with_reducible exact Mx.mix | refine Mx.put rfl ?_ | refine Mx.upd rfl ?_ | refine Mx.updl rfl ?_ | refine Mx.fin rfl ?_ | refine Mx.inner rfl ?_ | refine Mx.none ?_ | exact Mx.refl | exact Mx.mix)))), rfl, rfl⟩
 ·rintro mm fr ds HH ⟨k, a, c, rfl, hk, hFr, rfl, eHH⟩
  obtain rfl := eHH.symm
  obtain ⟨frU, rfl⟩ := hFr.eq
  clear hFr
  refine SW.seq_k fun K4 hK4 => ?_
  refine SW.region _ _ _ _ ?_
  refine RL.p T ?_
  refine RL.nil _ _ _ _ ?_
  refine hK4 _ _ _ ?_
  refine SW.seq_k fun K5 hK5 => ?_
  refine SW.cs (fun hc0 => ?_) (fun hc0 => ?_)
  ·skip
   refine SW.skip ?_
   refine hK5 _ _ _ ?_
   refine SW.seq_k fun K6 hK6 => ?_
   refine SW.block ?_
   refine SW.seq_k fun K7 hK7 => ?_
   refine SW.region _ _ _ _ ?_
   refine RL.ix T ?_ (hR := fun hs => hB.cons)
   refine RL.leN T ?_ (hR := fun hs => hB.cons) (hvs := (by exact (rfl : _ = [_, _])))
   refine RL.s ?_
   refine NV.alloc T rfl rfl rfl (by exact (rfl : _ = [_, _])) ?_
   intro b5_0
   refine RL.s ?_
   refine NV.sN T rfl rfl rfl (by exact (rfl : _ = [_, _])) (by exact (rfl : _ = [_, _])) ?_
   refine RL.nil _ _ _ _ ?_
   refine hK7 _ _ _ ?_
   refine SW.region _ _ _ _ ?_
   refine RL.p T ?_
   refine RL.q (QV.vN T rfl rfl rfl rfl rfl (by exact (rfl : _ = [_, _]))) ?_
   refine RL.bs T rfl rfl rfl (by exact (rfl : _ = some [_, _])) (fun b14_1 => ?_)
   refine RL.apS T ([(ps.getD k default)]) (fun a0_ c0_ => ?_)
   refine RL.p T ?_
   refine RL.drop ?_
   refine RL.nil _ _ _ _ ?_
   refine hK6 _ _ _ ?_
   refine SW.region _ _ _ _ ?_
   first | refine RL.ar ?_ | refine RL.p T ?_
   refine RL.p T ?_
   refine RL.nil _ _ _ _ ?_
   exact ⟨nr - (k + 1), (by omega), k + 1, a0_, c0_, (by rfl), by omega, (.cons rfl (.consI rfl (by first | omega | rfl) (.nil (by repeat first | with_reducible exact Mx.refl | with_reducible exact Mx.mix | refine Mx.put rfl ?_ | refine Mx.upd rfl ?_ | refine Mx.updl rfl ?_ | refine Mx.fin rfl ?_ | refine Mx.inner rfl ?_ | refine Mx.none ?_ | exact Mx.refl | exact Mx.mix)))), rfl, (by rw [pd_snoc (by omega)]; rfl)⟩
  ·skip
   refine SW.exit ?_
   refine hK2 _ _ _ ?_
   refine SW.seq_k fun K8 hK8 => ?_
   refine SW.region _ _ _ _ ?_
   refine RL.p T ?_
   refine RL.p T ?_
   refine RL.nil _ _ _ _ ?_
   refine hK8 _ _ _ ?_
   refine SW.ret ?_
   obtain rfl : k = nr := by omega
   rw [List.take_of_length_le (by omega)]
   refine retQ.rr ((.row a k c 35 2 (ps.flatMap PdC) :: H)) ?_
   clear hK8 K8 hK5 K5 hK4 K4 hK3 K3 hK2 K2 hK1 K1 hK0 K0
   exact ⟨a, c, rfl, rfl⟩
theorem sameP {w0 : World} {H : List Chunk} (ps : List Pd) (sa : Option Addr) (n c : Nat) (hRa : Rd w0 H sa n c 2 (List.flatMap PdC ps)) (hna : n = ps.length) (hka : ∀ q ∈ ps, PdOk w0 H q) (qs : List Pd) (sb : Option Addr) (m d : Nat) (hRb : Rd w0 H sb m d 2 (List.flatMap PdC qs)) (hnb : m = qs.length) (hkb : ∀ q ∈ qs, PdOk w0 H q) (hmx : n ≤ 4398046511000) : SC Tryd.prog w0 14 #[.slice sa n c, .slice sb m d] H (fun v H' => v = .bool (decide (mg ps = mg qs)) ∧ H' = H) := by
 refine SC.enter Tryd.func14 rfl (Nat.le_of_ble_eq_true rfl) ?_
 refine SW.seq_k fun K0 hK0 => ?_
 refine SW.region _ _ _ _ ?_
 refine RL.p T ?_
 refine RL.nil _ _ _ _ ?_
 refine hK0 _ _ _ ?_
 refine SW.seq_k fun K1 hK1 => ?_
 refine SW.seq_k fun K2 hK2 => ?_
 refine SW.region _ _ _ _ ?_
 refine RL.p T ?_
 refine RL.p T ?_
 refine RL.p T ?_
 refine RL.p T ?_
 refine RL.p T ?_
 refine RL.nil _ _ _ _ ?_
 refine hK2 _ _ _ ?_
 refine SW.cs (fun hc0 => ?_) (fun hc0 => ?_)
 ·skip
  first
   | (exfalso; first | omega | contradiction | (clear hK2 K2; clear hK1 K1; clear hK0 K0; simp at *; done))
   | (
    refine SW.seq_k fun K3 hK3 => ?_
    refine SW.region _ _ _ _ ?_
    refine RL.p T ?_
    refine RL.nil _ _ _ _ ?_
    refine hK3 _ _ _ ?_
    refine SW.ret ?_
    refine retQ.rr (H) ?_
    clear hK3 K3 hK2 K2 hK1 K1 hK0 K0
    refine ⟨boolE ?_, rfl⟩; first | (rw [mg_len_ne (by omega)]; done) | (rw [mg_ne (k := k) (by omega) (by omega) (fun hh => hc2.elim (fun g => g hh.1) (fun g => g hh.2))]; done) | (rw [mg_end (k := k) (by omega) (by omega) hb]; done)
    )
 ·skip
  first
   | (exfalso; first | omega | contradiction | (clear hK2 K2; clear hK1 K1; clear hK0 K0; simp at *; done))
   | (
    refine SW.skip ?_
    refine hK1 _ _ _ ?_
    refine SW.seq_k fun K4 hK4 => ?_
    refine SW.seq_k fun K5 hK5 => ?_
    refine SW.region _ _ _ _ ?_
    refine RL.p T ?_
    refine RL.p T ?_
    refine RL.p T ?_
    refine RL.nil _ _ _ _ ?_
    refine hK5 _ _ _ ?_
    refine SW.block ?_
    refine SW.loopM (fun frB mm fr ds HH => ∃ (k : Nat) , mm = n - k ∧ (k ≤ n ∧ (mg (ps.take k) = mg (qs.take k))) ∧ FrIs [4, 5, 13, 14, 15, 16, 17, 18, 19, 20, 21, 22, 23, 24, 25, 26, 27, 28, 29, 30, 31, 32, 33, 34, 35, 36, 37, 38, 39, 40, 41] frB fr [(13, .int .i64 k)] ∧ ds = [] ∧ HH = H) (n := n - 0) ?_ ?_
    ·exact ⟨0, rfl, ⟨Nat.zero_le _, rfl⟩, (.cons rfl (.nil (by repeat first | with_reducible exact Mx.refl | with_reducible exact Mx.mix | refine Mx.put rfl ?_ | refine Mx.upd rfl ?_ | refine Mx.updl rfl ?_ | refine Mx.fin rfl ?_ | refine Mx.inner rfl ?_ | refine Mx.none ?_ | exact Mx.refl | exact Mx.mix))), rfl, rfl⟩
    ·rintro mm fr ds HH ⟨k, rfl, ⟨hk, hb⟩, hFr, rfl, eHH⟩
     obtain rfl := eHH.symm
     obtain ⟨frU, rfl⟩ := hFr.eq
     clear hFr
     have hx := pd_mem hka k
     have hy := pd_mem hkb k
     refine SW.seq_k fun K6 hK6 => ?_
     refine SW.region _ _ _ _ ?_
     refine RL.p T ?_
     refine RL.nil _ _ _ _ ?_
     refine hK6 _ _ _ ?_
     refine SW.seq_k fun K7 hK7 => ?_
     refine SW.cs (fun hc1 => ?_) (fun hc1 => ?_)
     ·skip
      first
       | (exfalso; first | omega | contradiction | (clear hK7 K7; clear hK6 K6; clear hK5 K5; clear hK4 K4; clear hK2 K2; clear hK1 K1; clear hK0 K0; simp at *; done))
       | (
        refine SW.skip ?_
        refine hK7 _ _ _ ?_
        refine SW.seq_k fun K8 hK8 => ?_
        refine SW.block ?_
        refine SW.seq_k fun K9 hK9 => ?_
        refine SW.region _ _ _ _ ?_
        refine RL.p T ?_
        refine RL.p T ?_
        refine RL.nil _ _ _ _ ?_
        refine hK9 _ _ _ ?_
        refine SW.seq_k fun K10 hK10 => ?_
        refine SW.drawQ [(16, 0), (17, 1), (18, 2), (19, 3), (20, 4), (21, 5), (22, 6), (23, 7), (24, 8), (25, 9), (26, 10), (27, 11), (28, 12), (29, 13), (30, 14), (31, 15), (32, 16), (33, 17), (34, 18), (35, 19), (36, 20), (37, 21), (38, 22), (39, 23), (40, 24)] [[], [], [0, 1], [2, 0, 1], [3, 2, 0, 1], [], [], [5, 6], [7, 5, 6], [8, 7, 5, 6], [4, 3, 2, 0, 1, 9, 8, 7, 5, 6], [10, 4, 3, 2, 0, 1, 9, 8, 7, 5, 6], [11, 10, 4, 3, 2, 0, 1, 9, 8, 7, 5, 6], [11, 10, 4, 3, 2, 0, 1, 9, 8, 7, 5, 6], [12, 11, 10, 4, 3, 2, 0, 1, 9, 8, 7, 5, 6, 13], [14, 12, 11, 10, 4, 3, 2, 0, 1, 9, 8, 7, 5, 6, 13], [15, 14, 12, 11, 10, 4, 3, 2, 0, 1, 9, 8, 7, 5, 6, 13], [11, 10, 4, 3, 2, 0, 1, 9, 8, 7, 5, 6], [11, 10, 4, 3, 2, 0, 1, 9, 8, 7, 5, 6], [17, 11, 10, 4, 3, 2, 0, 1, 9, 8, 7, 5, 6, 18], [19, 17, 11, 10, 4, 3, 2, 0, 1, 9, 8, 7, 5, 6, 18], [20, 19, 17, 11, 10, 4, 3, 2, 0, 1, 9, 8, 7, 5, 6, 18], [16, 15, 14, 12, 11, 10, 4, 3, 2, 0, 1, 9, 8, 7, 5, 6, 13, 21, 20, 19, 17, 18], [22, 16, 15, 14, 12, 11, 10, 4, 3, 2, 0, 1, 9, 8, 7, 5, 6, 13, 21, 20, 19, 17, 18], [11, 10, 4, 3, 2, 0, 1, 9, 8, 7, 5, 6, 23, 22, 16, 15, 14, 12, 13, 21, 20, 19, 17, 18]] mixed (by kernel_rfl) (by kernel_rfl) ?_
        refine QL.p T ?_
        refine QL.p T ?_
        refine QL.ix T ?_ (hR := fun hs => (by first | exact hRa | exact hRb))
        refine QL.p T ?_
        refine QL.leF T ?_ (hR := fun hs => (by first | exact hRa | exact hRb))
        refine QL.p T ?_
        refine QL.p T ?_
        refine QL.ix T ?_ (hR := fun hs => (by first | exact hRa | exact hRb))
        refine QL.p T ?_
        refine QL.leF T ?_ (hR := fun hs => (by first | exact hRa | exact hRb))
        refine QL.p T ?_
        refine QL.p T ?_
        refine QL.join (fr1 := ?_) 12 27 false [28, 29, 30, 31, 32, 33, 34, 35, 36, 37, 38, 39] (fun hs0 hj => ?_) ?_ ?_
        rotate_left
        ·have hs0j := hs0
         try simp only [decide_eq_true_eq, Bool.not_eq_true', decide_eq_false_iff_not, Bool.not_eq_false', Int.not_lt, Int.not_le, Int.toNat_natCast, Bool.and_eq_true, Bool.or_eq_true, Bool.and_eq_false_iff, Bool.or_eq_false_iff] at hs0
         refine QL.p T ?_
         refine QL.p T ?_
         refine QL.ix T ?_ (hR := fun hs => (by first | exact hRa | exact hRb))
         refine QL.p T ?_
         refine QL.leF T ?_ (hR := fun hs => (by first | exact hRa | exact hRb))
         refine QL.p T ?_
         refine QL.p T ?_
         refine QL.ix T ?_ (hR := fun hs => (by first | exact hRa | exact hRb))
         refine QL.p T ?_
         refine QL.leF T ?_ (hR := fun hs => (by first | exact hRa | exact hRb))
         refine QL.c fun16 (fun hs => same (ps.getD k default).a (qs.getD k default).a (ps.getD k default).n (ps.getD k default).c (qs.getD k default).n (qs.getD k default).c (ps.getD k default).data (qs.getD k default).data hx.rd hy.rd hx.len hy.len hx.max hy.max) ?_
         refine QL.p T ?_
         exact hj
        ·repeat first | with_reducible exact Mx.refl | with_reducible exact Mx.mix | refine Mx.put rfl ?_ | refine Mx.upd rfl ?_ | refine Mx.updl rfl ?_ | refine Mx.fin rfl ?_ | refine Mx.inner rfl ?_ | refine Mx.none ?_ | exact Mx.refl | exact Mx.mix
        refine QL.or ?_
        refine QL.nil ?_
        refine hK10 _ _ _ ?_
        refine SW.cs (fun hc2 => ?_) (fun hc2 => ?_)
        ·skip
         first
          | (exfalso; first | omega | contradiction | (clear hK10 K10; clear hK9 K9; clear hK8 K8; clear hK7 K7; clear hK6 K6; clear hK5 K5; clear hK4 K4; clear hK2 K2; clear hK1 K1; clear hK0 K0; simp at *; done))
          | (
           refine SW.seq_k fun K11 hK11 => ?_
           refine SW.region _ _ _ _ ?_
           refine RL.p T ?_
           refine RL.nil _ _ _ _ ?_
           refine hK11 _ _ _ ?_
           refine SW.ret ?_
           refine retQ.rr (H) ?_
           clear hK11 K11 hK10 K10 hK9 K9 hK8 K8 hK7 K7 hK6 K6 hK5 K5 hK4 K4 hK2 K2 hK1 K1 hK0 K0
           refine ⟨boolE ?_, rfl⟩; first | (rw [mg_len_ne (by omega)]; done) | (rw [mg_ne (k := k) (by omega) (by omega) (fun hh => hc2.elim (fun g => g hh.1) (fun g => g hh.2))]; done) | (rw [mg_end (k := k) (by omega) (by omega) hb]; done)
           )
        ·skip
         first
          | (exfalso; first | omega | contradiction | (clear hK10 K10; clear hK9 K9; clear hK8 K8; clear hK7 K7; clear hK6 K6; clear hK5 K5; clear hK4 K4; clear hK2 K2; clear hK1 K1; clear hK0 K0; simp at *; done))
          | (
           refine SW.skip ?_
           refine hK8 _ _ _ ?_
           refine SW.region _ _ _ _ ?_
           first | refine RL.ar ?_ | refine RL.p T ?_
           refine RL.p T ?_
           refine RL.nil _ _ _ _ ?_
           exact ⟨n - (k + 1), (by omega), k + 1, (by rfl), ⟨by omega, mg_step (by omega) (by omega) hb (by simp_all)⟩, (.cons rfl (.nil (by repeat first | with_reducible exact Mx.refl | with_reducible exact Mx.mix | refine Mx.put rfl ?_ | refine Mx.upd rfl ?_ | refine Mx.updl rfl ?_ | refine Mx.fin rfl ?_ | refine Mx.inner rfl ?_ | refine Mx.none ?_ | exact Mx.refl | exact Mx.mix))), rfl, rfl⟩
           )
        )
     ·skip
      first
       | (exfalso; first | omega | contradiction | (clear hK7 K7; clear hK6 K6; clear hK5 K5; clear hK4 K4; clear hK2 K2; clear hK1 K1; clear hK0 K0; simp at *; done))
       | (
        refine SW.exit ?_
        refine hK4 _ _ _ ?_
        refine SW.seq_k fun K12 hK12 => ?_
        refine SW.region _ _ _ _ ?_
        refine RL.p T ?_
        refine RL.nil _ _ _ _ ?_
        refine hK12 _ _ _ ?_
        refine SW.ret ?_
        refine retQ.rr (H) ?_
        clear hK12 K12 hK7 K7 hK6 K6 hK5 K5 hK4 K4 hK2 K2 hK1 K1 hK0 K0
        refine ⟨boolE ?_, rfl⟩; first | (rw [mg_len_ne (by omega)]; done) | (rw [mg_ne (k := k) (by omega) (by omega) (fun hh => hc2.elim (fun g => g hh.1) (fun g => g hh.2))]; done) | (rw [mg_end (k := k) (by omega) (by omega) hb]; done)
        )
    )
end Go.Proofs.YthigfghfpmpiiaaDoor.M
