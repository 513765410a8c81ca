import Derived.Test.YthigfghfpmpiiaaDoorProg
import Derived.Test.YthigfghfpmpiiaaDoorFE20E
import Derived.Test.YthigfghfpmpiiaaDoorP19b
set_option linter.unusedVariables false
set_option linter.unusedSimpArgs false
namespace Go.Proofs.YthigfghfpmpiiaaDoor.M
open Go Go.Sep Go.Proofs
set_option maxRecDepth 10000
set_option maxHeartbeats 2000000
theorem fun12 : Fun Tryd.prog 12 := Fun.mk Tryd.func12 (by kernel_rfl) (by kernel_rfl)
theorem fun21 : Fun Tryd.prog 21 := Fun.mk Tryd.func21 (by kernel_rfl) (by kernel_rfl)
theorem fun24 : Fun Tryd.prog 24 := Fun.mk Tryd.func24 (by kernel_rfl) (by kernel_rfl)
theorem fun25 : Fun Tryd.prog 25 := Fun.mk Tryd.func25 (by kernel_rfl) (by kernel_rfl)
theorem fun26 : Fun Tryd.prog 26 := Fun.mk Tryd.func26 (by kernel_rfl) (by kernel_rfl)
theorem fun27 : Fun Tryd.prog 27 := Fun.mk Tryd.func27 (by kernel_rfl) (by kernel_rfl)
theorem fun28 : Fun Tryd.prog 28 := Fun.mk Tryd.func28 (by kernel_rfl) (by kernel_rfl)
theorem fun29 : Fun Tryd.prog 29 := Fun.mk Tryd.func29 (by kernel_rfl) (by kernel_rfl)
theorem fun30 : Fun Tryd.prog 30 := Fun.mk Tryd.func30 (by kernel_rfl) (by kernel_rfl)
theorem trimR {w0 : World} {H : List Chunk} (sa : Option Addr) (n c : Nat) (es : List Int) (hR : Rd w0 H sa n c 1 (es.map (.int .u8))) (hn : n = es.length) (hm : n ≤ 140737488351232) : SC Tryd.prog w0 30 #[.slice sa n c, .int .u8 0] H (fun v H' => ∃ k, v = .slice sa k c ∧ H' = H ∧ k ≤ n ∧ (∀ j, k ≤ j → j < n → es.getD j 0 = 0) ∧ (k = 0 ∨ es.getD (k - 1) 0 ≠ 0)) := by
 refine SC.enter Tryd.func30 rfl (Nat.le_of_ble_eq_true rfl) ?_
 refine SW.seq_k fun K0 hK0 => ?_
 refine SW.region _ _ _ _ ?_
 refine RL.p T ?_
 refine RL.nil _ _ _ _ ?_
 refine hK0 _ _ _ ?_
 refine SW.seq_k fun K1 hK1 => ?_
 refine SW.block ?_
 refine SW.loopM (fun frB mm fr ds HH => ∃ (k : Nat), mm = k + 1 ∧ (k ≤ n ∧ (∀ j, k ≤ j → j < n → es.getD j 0 = 0)) ∧ FrIs [0, 5, 6, 7, 8, 9, 10, 11, 12, 13, 14, 15, 16, 17, 18, 19, 20, 21, 22] frB fr [(0, .slice sa k c)] ∧ ds = [] ∧ HH = H) (n := n + 1) ?_ ?_
 ·exact ⟨n, rfl, ⟨Nat.le_refl _, fun j h1 h2 => by omega⟩, (.cons rfl (.nil (by repeat first | with_reducible exact Mx.refl | with_reducible exact Mx.mix | refine Mx.put rfl ?_ | refine Mx.upd rfl ?_ | refine Mx.updl rfl ?_ | refine Mx.fin rfl ?_ | refine Mx.inner rfl ?_ | refine Mx.none ?_ | exact Mx.refl | exact Mx.mix))), rfl, rfl⟩
 ·rintro mm fr ds HH ⟨k, rfl, ⟨hk, hz⟩, hFr, rfl, eHH⟩
  obtain rfl := eHH.symm
  obtain ⟨frU, rfl⟩ := hFr.eq
  clear hFr
  refine SW.seq_k fun K2 hK2 => ?_
  refine SW.seq_k fun K3 hK3 => ?_
  refine SW.region _ _ _ _ ?_
  refine RL.p T ?_
  refine RL.p T ?_
  refine RL.p T ?_
  refine RL.p T ?_
  refine RL.join (fr1 := ?_) 8 8 true [9, 10, 11, 12, 13, 14, 15, 16] (fun hs0 hj => ?_) ?_ ?_
  rotate_left
  ·have hs0j := hs0
   try simp only [decide_eq_true_eq, Bool.not_eq_true', decide_eq_false_iff_not, Bool.not_eq_false', Int.not_lt, Int.not_le, Int.toNat_natCast, Bool.and_eq_true, Bool.or_eq_true, Bool.and_eq_false_iff, Bool.or_eq_false_iff] at hs0
   refine RL.p T ?_
   refine RL.p T ?_
   refine RL.p T ?_
   first | refine RL.ar ?_ | refine RL.p T ?_
   refine RL.ix T ?_ (hR := fun hs => (hR.tk k hk))
   refine RL.le T ?_ (hR := fun hs => (hR.tk k hk)) (hv := (map_as (by rw [List.length_take]; omega) (getD_take (by omega))))
   refine RL.p T ?_
   refine RL.p T ?_
   exact hj
  ·repeat first | with_reducible exact Mx.refl | with_reducible exact Mx.mix | refine Mx.put rfl ?_ | refine Mx.upd rfl ?_ | refine Mx.updl rfl ?_ | refine Mx.fin rfl ?_ | refine Mx.inner rfl ?_ | refine Mx.none ?_ | exact Mx.refl | exact Mx.mix
  refine RL.and ?_
  refine RL.nil _ _ _ _ ?_
  refine hK3 _ _ _ ?_
  refine SW.cs (fun hc0 => ?_) (fun hc0 => ?_)
  ·skip
   first
    | (exfalso; first | omega | contradiction | (clear hK3 K3; clear hK2 K2; clear hK1 K1; clear hK0 K0; simp at *; done))
    | (
     refine SW.skip ?_
     refine hK2 _ _ _ ?_
     refine SW.block ?_
     have hlast : 0 < k → es.getD (k - 1) 0 = 0 := fun h => by
       have h9 := hc0
       simp only [show ((k : Int) - 1).toNat = k - 1 by omega] at h9
       exact h9.2
     refine SW.region _ _ _ _ ?_
     refine RL.p T ?_
     refine RL.p T ?_
     refine RL.p T ?_
     first | refine RL.ar ?_ | refine RL.p T ?_
     refine RL.sl T ?_ (h1 := k - 1) (hR := fun hs => hR.tk k hk)
     rw [subA_zero, Nat.sub_zero, Nat.sub_zero]
     refine RL.p T ?_
     refine RL.nil _ _ _ _ ?_
     exact ⟨k - 1 + 1, (by omega), k - 1, (by rfl), ⟨by omega, fun j h1 h2 => by
           rcases Nat.lt_or_ge j k with h3 | h3
           · obtain rfl : j = k - 1 := by omega
             exact hlast (by omega)
           · exact hz j h3 h2⟩, (.cons rfl (.nil (by repeat first | with_reducible exact Mx.refl | with_reducible exact Mx.mix | refine Mx.put rfl ?_ | refine Mx.upd rfl ?_ | refine Mx.updl rfl ?_ | refine Mx.fin rfl ?_ | refine Mx.inner rfl ?_ | refine Mx.none ?_ | exact Mx.refl | exact Mx.mix))), rfl, rfl⟩
     )
  ·skip
   first
    | (exfalso; first | omega | contradiction | (clear hK3 K3; clear hK2 K2; clear hK1 K1; clear hK0 K0; simp at *; done))
    | (
     refine SW.exit ?_
     refine hK1 _ _ _ ?_
     refine SW.seq_k fun K4 hK4 => ?_
     refine SW.region _ _ _ _ ?_
     refine RL.p T ?_
     refine RL.p T ?_
     refine RL.nil _ _ _ _ ?_
     refine hK4 _ _ _ ?_
     refine SW.ret ?_
     refine retQ.rr (H) ?_
     clear hK4 K4 hK3 K3 hK2 K2 hK1 K1 hK0 K0
     refine ⟨k, rfl, rfl, hk, hz, ?_⟩
     rcases Nat.eq_zero_or_pos k with h | h
     · exact .inl h
     · right
       have h9 := hc0
       simp only [show ((k : Int) - 1).toNat = k - 1 by omega] at h9
       rcases h9 with h9 | h9
       · omega
       · exact h9
     )
theorem trimL {w0 : World} {H : List Chunk} (sa : Option Addr) (n c : Nat) (es : List Int) (hR : Rd w0 H sa n c 1 (es.map (.int .u8))) (hn : n = es.length) (hm : n ≤ 140737488351232) : SC Tryd.prog w0 29 #[.slice sa n c, .int .u8 0] H (fun v H' => ∃ a m c', v = .slice a m c' ∧ H' = H ∧ (m = 0 ↔ Zs es)) := by
 refine SC.enter Tryd.func29 rfl (Nat.le_of_ble_eq_true rfl) ?_
 refine SW.seq_k fun K0 hK0 => ?_
 refine SW.region _ _ _ _ ?_
 refine RL.p T ?_
 refine RL.nil _ _ _ _ ?_
 refine hK0 _ _ _ ?_
 refine SW.seq_k fun K1 hK1 => ?_
 refine SW.block ?_
 refine SW.loopM (fun frB mm fr ds HH => ∃ (l m : Nat) (a : Option Addr) (c' : Nat), mm = n - l ∧ (l ≤ n ∧ m = n - l ∧ Rd w0 H a m c' 1 ((es.drop l).map (.int .u8)) ∧ (∀ j, j < l → es.getD j 0 = 0)) ∧ FrIs [0, 5, 6, 7, 8, 9, 10, 11, 12, 13, 14, 15, 16] frB fr [(0, .slice a m c')] ∧ ds = [] ∧ HH = H) (n := n - 0) ?_ ?_
 ·exact ⟨0, n, sa, c, rfl, ⟨Nat.zero_le _, by omega, hR, fun j h => by omega⟩, (.cons rfl (.nil (by repeat first | with_reducible exact Mx.refl | with_reducible exact Mx.mix | refine Mx.put rfl ?_ | refine Mx.upd rfl ?_ | refine Mx.updl rfl ?_ | refine Mx.fin rfl ?_ | refine Mx.inner rfl ?_ | refine Mx.none ?_ | exact Mx.refl | exact Mx.mix))), rfl, rfl⟩
 ·rintro mm fr ds HH ⟨l, m, a, c', rfl, ⟨hl, hm2, hR2, hz⟩, hFr, rfl, eHH⟩
  obtain rfl := eHH.symm
  obtain ⟨frU, rfl⟩ := hFr.eq
  clear hFr
  refine SW.seq_k fun K2 hK2 => ?_
  refine SW.seq_k fun K3 hK3 => ?_
  refine SW.region _ _ _ _ ?_
  refine RL.p T ?_
  refine RL.p T ?_
  refine RL.p T ?_
  refine RL.p T ?_
  refine RL.join (fr1 := ?_) 5 8 true [9, 10, 11, 12, 13] (fun hs0 hj => ?_) ?_ ?_
  rotate_left
  ·have hs0j := hs0
   try simp only [decide_eq_true_eq, Bool.not_eq_true', decide_eq_false_iff_not, Bool.not_eq_false', Int.not_lt, Int.not_le, Int.toNat_natCast, Bool.and_eq_true, Bool.or_eq_true, Bool.and_eq_false_iff, Bool.or_eq_false_iff] at hs0
   refine RL.p T ?_
   refine RL.ix T ?_ (hR := fun hs => hR2)
   refine RL.le T ?_ (hR := fun hs => hR2) (hv := (map_as (by rw [List.length_drop]; omega) rfl))
   refine RL.p T ?_
   refine RL.p T ?_
   exact hj
  ·repeat first | with_reducible exact Mx.refl | with_reducible exact Mx.mix | refine Mx.put rfl ?_ | refine Mx.upd rfl ?_ | refine Mx.updl rfl ?_ | refine Mx.fin rfl ?_ | refine Mx.inner rfl ?_ | refine Mx.none ?_ | exact Mx.refl | exact Mx.mix
  refine RL.and ?_
  refine RL.nil _ _ _ _ ?_
  refine hK3 _ _ _ ?_
  refine SW.cs (fun hc0 => ?_) (fun hc0 => ?_)
  ·skip
   first
    | (exfalso; first | omega | contradiction | (clear hK3 K3; clear hK2 K2; clear hK1 K1; clear hK0 K0; simp at *; done))
    | (
     refine SW.skip ?_
     refine hK2 _ _ _ ?_
     refine SW.block ?_
     have hfst : 0 < m → es.getD l 0 = 0 := fun h => by
       have h9 := hc0.2
       rwa [show (Int.toNat 0) = 0 from rfl, getD_drop, Nat.add_zero] at h9
     refine SW.region _ _ _ _ ?_
     refine RL.p T ?_
     refine RL.sl T ?_ (l1 := 1) (hR := fun hs => hR2)
     refine RL.p T ?_
     refine RL.nil _ _ _ _ ?_
     exact ⟨n - (l + 1), (by omega), l + 1, m - 1, _, _, (by rfl), ⟨by omega, by omega, (by have h8 := hR2.seg 1 m (by omega) (Nat.le_refl _); rw [List.take_of_length_le (by rw [List.length_drop, List.length_drop]; omega), List.drop_drop] at h8; exact h8), fun j h1 => by
           rcases Nat.lt_or_ge j l with h3 | h3
           · exact hz j h3
           · obtain rfl : j = l := by omega
             exact hfst (by omega)⟩, (.cons rfl (.nil (by repeat first | with_reducible exact Mx.refl | with_reducible exact Mx.mix | refine Mx.put rfl ?_ | refine Mx.upd rfl ?_ | refine Mx.updl rfl ?_ | refine Mx.fin rfl ?_ | refine Mx.inner rfl ?_ | refine Mx.none ?_ | exact Mx.refl | exact Mx.mix))), rfl, rfl⟩
     )
  ·skip
   first
    | (exfalso; first | omega | contradiction | (clear hK3 K3; clear hK2 K2; clear hK1 K1; clear hK0 K0; simp at *; done))
    | (
     refine SW.exit ?_
     refine hK1 _ _ _ ?_
     refine SW.seq_k fun K4 hK4 => ?_
     refine SW.seq_k fun K5 hK5 => ?_
     refine SW.region _ _ _ _ ?_
     refine RL.p T ?_
     refine RL.p T ?_
     refine RL.p T ?_
     refine RL.nil _ _ _ _ ?_
     refine hK5 _ _ _ ?_
     refine SW.cs (fun hc1 => ?_) (fun hc1 => ?_)
     ·skip
      first
       | (exfalso; first | omega | contradiction | (clear hK5 K5; clear hK4 K4; clear hK3 K3; clear hK2 K2; clear hK1 K1; clear hK0 K0; simp at *; done))
       | (
        refine SW.seq_k fun K6 hK6 => ?_
        refine SW.region _ _ _ _ ?_
        refine RL.p T ?_
        refine RL.nil _ _ _ _ ?_
        refine hK6 _ _ _ ?_
        refine SW.ret ?_
        refine retQ.rr (H) ?_
        clear hK6 K6 hK5 K5 hK4 K4 hK3 K3 hK2 K2 hK1 K1 hK0 K0
        have h0 : m = 0 → Zs es := fun h => zs_iff.2 fun j hj => hz j (by omega)
        have h1 : m ≠ 0 → ¬ Zs es := fun h hs => by
          rcases hc0 with h9 | h9
          · omega
          · rw [show (Int.toNat 0) = 0 from rfl, getD_drop, Nat.add_zero] at h9
            exact h9 (zs_iff.1 hs l (by omega))
        first
          | exact ⟨none, 0, 0, rfl, rfl, ⟨fun _ => h0 (by omega), fun _ => rfl⟩⟩
          | exact ⟨a, m, c', rfl, rfl, ⟨h0, fun h => Classical.byContradiction fun h2 => h1 h2 h⟩⟩
        )
     ·skip
      first
       | (exfalso; first | omega | contradiction | (clear hK5 K5; clear hK4 K4; clear hK3 K3; clear hK2 K2; clear hK1 K1; clear hK0 K0; simp at *; done))
       | (
        refine SW.skip ?_
        refine hK4 _ _ _ ?_
        refine SW.seq_k fun K7 hK7 => ?_
        refine SW.region _ _ _ _ ?_
        refine RL.p T ?_
        refine RL.p T ?_
        refine RL.nil _ _ _ _ ?_
        refine hK7 _ _ _ ?_
        refine SW.ret ?_
        refine retQ.rr (H) ?_
        clear hK7 K7 hK5 K5 hK4 K4 hK3 K3 hK2 K2 hK1 K1 hK0 K0
        have h0 : m = 0 → Zs es := fun h => zs_iff.2 fun j hj => hz j (by omega)
        have h1 : m ≠ 0 → ¬ Zs es := fun h hs => by
          rcases hc0 with h9 | h9
          · omega
          · rw [show (Int.toNat 0) = 0 from rfl, getD_drop, Nat.add_zero] at h9
            exact h9 (zs_iff.1 hs l (by omega))
        first
          | exact ⟨none, 0, 0, rfl, rfl, ⟨fun _ => h0 (by omega), fun _ => rfl⟩⟩
          | exact ⟨a, m, c', rfl, rfl, ⟨h0, fun h => Classical.byContradiction fun h2 => h1 h2 h⟩⟩
        )
     )
theorem trimZ {w0 : World} {H : List Chunk} (sa : Option Addr) (n c : Nat) (es : List Int) (hR : Rd w0 H sa n c 1 (es.map (.int .u8))) (hn : n = es.length) (hm : n ≤ 140737488351232) : SC Tryd.prog w0 28 #[.slice sa n c, .string { data := #[0] }] H (fun v H' => ∃ a m c', v = .slice a m c' ∧ H' = H ∧ (m = 0 ↔ Zs es)) := by
 refine SC.enter Tryd.func28 rfl (Nat.le_of_ble_eq_true rfl) ?_
 refine SW.seq_k fun K0 hK0 => ?_
 refine SW.region _ _ _ _ ?_
 refine RL.p T ?_
 refine RL.nil _ _ _ _ ?_
 refine hK0 _ _ _ ?_
 refine SW.seq_k fun K1 hK1 => ?_
 refine SW.seq_k fun K2 hK2 => ?_
 refine SW.region _ _ _ _ ?_
 refine RL.p T ?_
 refine RL.p T ?_
 refine RL.p T ?_
 refine RL.nil _ _ _ _ ?_
 refine hK2 _ _ _ ?_
 refine SW.cs (fun hc0 => ?_) (fun hc0 => ?_)
 ·skip
  first
   | (exfalso; first | omega | contradiction | (clear hK2 K2; clear hK1 K1; clear hK0 K0; simp at *; done))
   | (
    refine SW.seq_k fun K3 hK3 => ?_
    refine SW.region _ _ _ _ ?_
    refine RL.p T ?_
    refine RL.nil _ _ _ _ ?_
    refine hK3 _ _ _ ?_
    refine SW.ret ?_
    refine retQ.rr (H) ?_
    clear hK3 K3 hK2 K2 hK1 K1 hK0 K0
    first
      | exact ⟨none, 0, 0, rfl, rfl, ⟨fun _ => zs_iff.2 fun j hj => by omega, fun _ => rfl⟩⟩
      | exact ⟨a2, m2, c2, rfl, rfl, hm2.trans (zs_take (by omega) (fun j h1 h2 => hz j h1 (by omega)))⟩
    )
 ·skip
  first
   | (exfalso; first | omega | contradiction | (clear hK2 K2; clear hK1 K1; clear hK0 K0; simp at *; done))
   | (
    refine SW.skip ?_
    refine hK1 _ _ _ ?_
    refine SW.seq_k fun K4 hK4 => ?_
    refine SW.seq_k fun K5 hK5 => ?_
    refine SW.region _ _ _ _ ?_
    refine RL.p T ?_
    refine RL.p T ?_
    rw [nul_ne]
    refine RL.nil _ _ _ _ ?_
    refine hK5 _ _ _ ?_
    refine SW.cond_f rfl ?_
    refine SW.skip ?_
    refine hK4 _ _ _ ?_
    refine SW.seq_k fun K6 hK6 => ?_
    refine SW.seq_k fun K7 hK7 => ?_
    refine SW.region _ _ _ _ ?_
    refine RL.p T ?_
    refine RL.p T ?_
    refine RL.p T ?_
    refine RL.p T ?_
    refine RL.p T ?_
    refine RL.q (QV.idxS T rfl rfl rfl rfl rfl) ?_
    refine RL.p T ?_
    refine RL.p T ?_
    refine RL.nil _ _ _ _ ?_
    refine hK7 _ _ _ ?_
    refine SW.cond_t rfl ?_
    refine SW.seq_k fun K8 hK8 => ?_
    refine SW.draw [(21, 0), (22, 1), (23, 2), (24, 3), (25, 4), (26, 5), (27, 6), (4, 7)] [[], [], [1], [0, 2, 1], [], [4], [3, 0, 2, 1, 5, 4], [6, 3, 0, 2, 1, 5, 4]] mixed (by kernel_rfl) (by kernel_rfl) ?_
    refine RD.p T ?_
    refine RD.p T ?_
    refine RD.q rfl rfl (Gd.none rfl) (QV.idxS T rfl rfl rfl rfl rfl) ?_
    refine RD.p T ?_
    refine RD.q rfl rfl (Gd.none rfl) (QV.idxS T rfl rfl rfl rfl rfl) ?_
    refine RD.nv rfl rfl rfl (Gd.none rfl) ?_
    refine NV.call rfl rfl rfl fun30 rfl rfl (trimR sa n c es hR hn hm) ?_
    rintro _ _ ⟨k, rfl, e, hk, hz, hl⟩; obtain rfl := e.symm
    refine ⟨(Stab.cons rfl (Gd.none rfl) (QV.idxS T rfl rfl rfl rfl rfl) (Stab.cons rfl (Gd.none rfl) (pev_sound T rfl) Stab.nil)), ?_⟩
    refine RD.nv rfl rfl rfl (Gd.none rfl) ?_
    refine NV.call rfl rfl rfl fun29 rfl rfl (trimL sa k c (es.take k) (hR.tk k hk) (by rw [List.length_take]; omega) (by omega)) ?_
    rintro _ _ ⟨a2, m2, c2, rfl, e, hm2⟩; obtain rfl := e.symm
    refine ⟨Stab.nil, ?_⟩
    refine RD.p T ?_
    refine RD.k rfl rfl ?_
    refine hK8 _ _ _ ?_
    refine SW.ret ?_
    refine retQ.rr (H) ?_
    clear hK8 K8 hK7 K7 hK6 K6 hK5 K5 hK4 K4 hK2 K2 hK1 K1 hK0 K0
    first
      | exact ⟨none, 0, 0, rfl, rfl, ⟨fun _ => zs_iff.2 fun j hj => by omega, fun _ => rfl⟩⟩
      | exact ⟨a2, m2, c2, rfl, rfl, hm2.trans (zs_take (by omega) (fun j h1 h2 => hz j h1 (by omega)))⟩
    )
theorem zeroB {w0 : World} {H : List Chunk} (sa : Option Addr) (n c : Nat) (es : List Int) (hR : Rd w0 H sa n c 1 (es.map (.int .u8))) (hn : n = es.length) (hm : n ≤ 140737488351232) : SC Tryd.prog w0 26 #[.slice sa n c] H (fun v H' => v = .bool (decide (Zs es)) ∧ H' = H) := by
 refine SC.enter Tryd.func26 rfl (Nat.le_of_ble_eq_true rfl) ?_
 refine SW.seq_k fun K0 hK0 => ?_
 refine SW.region _ _ _ _ ?_
 refine RL.p T ?_
 refine RL.nil _ _ _ _ ?_
 refine hK0 _ _ _ ?_
 refine SW.seq_k fun K1 hK1 => ?_
 refine SW.region _ _ _ _ ?_
 refine RL.p T ?_
 refine RL.c fun28 (fun hs => trimZ sa n c es hR hn hm) ?_
 rintro _ _ ⟨a2, m2, c2, rfl, e, hm2⟩; obtain rfl := e.symm
 refine RL.p T ?_
 refine RL.p T ?_
 refine RL.p T ?_
 refine RL.nil _ _ _ _ ?_
 refine hK1 _ _ _ ?_
 refine SW.ret ?_
 refine retQ.rr (H) ?_
 clear hK1 K1 hK0 K0
 refine ⟨boolE (decide_eq_decide.2 ?_), rfl⟩; rw [← hm2]; omega
end Go.Proofs.YthigfghfpmpiiaaDoor.M
