import Derived.Test.YtmdmlhhhaidebaaProg
import Derived.Test.YtmdmlhhhaidebaaFG2
set_option linter.unusedVariables false
set_option linter.unusedSimpArgs false
namespace Go.Proofs.Ytmdmlhhhaidebaa.M
open Go Go.Sep Go.Proofs
set_option maxRecDepth 10000
set_option maxHeartbeats 2000000
theorem crcBelongs {w0 : World} {H : List Chunk} (m : Int) (sa : Option Addr) (n c : Nat) (es : List Int) (hR : ∀ H, Rd w0 H sa n c 1 (es.map (.int .u8))) (hn : n = es.length) (hm : n ≤ 140737488351232) (hB : Byte es) (sb : Option Addr) (nb cb : Nat) (fs : List Int) (hRb : ∀ H, Rd w0 H sb nb cb 1 (fs.map (.int .u8))) (hnb : nb = fs.length) (hmb : nb ≤ 140737488351232) (hBb : Byte fs) : SC Try.prog w0 8 #[.int .i64 m, .slice sa n c, .slice sb nb cb] H (fun v H' => v = .bool true ∧ H' = H) := by
 refine SC.enter Try.func8 rfl (Nat.le_of_ble_eq_true rfl) ?_
 refine SW.seq_k fun K0 hK0 => ?_
 refine SW.region _ _ _ _ ?_
 refine RL.p T ?_
 refine RL.nil _ _ _ _ ?_
 refine hK0 _ _ _ ?_
 refine SW.seq_k fun K1 hK1 => ?_
 refine SW.seq_k fun K2 hK2 => ?_
 refine SW.region _ _ _ _ ?_
 refine RL.c fun9 (fun hs => alive) ?_
 rintro _ _ ⟨rfl, e⟩; obtain rfl := e.symm
 refine RL.p T ?_
 refine RL.nil _ _ _ _ ?_
 refine hK2 _ _ _ ?_
 refine SW.cs (fun hc0 => ?_) (fun hc0 => ?_)
 ·skip
  first
   | (exfalso; first | omega | contradiction | (simp at *; done))
   | (
    refine SW.seq_k fun K3 hK3 => ?_
    refine SW.region _ _ _ _ ?_
    refine RL.p T ?_
    refine RL.nil _ _ _ _ ?_
    refine hK3 _ _ _ ?_
    refine SW.ret ?_
    refine retQ.rr (H) ?_
    clear hK3 K3 hK2 K2 hK1 K1 hK0 K0
    first
      | exact ⟨rfl, rfl⟩
      | (refine ⟨boolE ?_, rfl⟩; rw [belongs hA hBB (by omega)]; rfl)
    )
 ·skip
  first
   | (exfalso; first | omega | contradiction | (simp at *; done))
   | (
    refine SW.skip ?_
    refine hK1 _ _ _ ?_
    refine SW.seq_k fun K4 hK4 => ?_
    refine SW.region _ _ _ _ ?_
    refine RL.p T ?_
    refine RL.p T ?_
    refine RL.p T ?_
    refine RL.p T ?_
    refine RL.q (QV.min3 rfl rfl rfl rfl rfl) ?_
    obtain ⟨k0, hk0', hka, hkb, hk2⟩ : ∃ k0 : Nat, min (min (n : Int) nb) 2000 = k0 ∧ k0 ≤ n ∧ k0 ≤ nb ∧ k0 ≤ 2000 := ⟨min (min n nb) 2000, by omega, by omega, by omega, by omega⟩
    rw [hk0']
    have hl1 : (es.take k0).length = k0 - 0 := by rw [List.length_take]; omega
    have hl2 : (fs.take k0).length = k0 - 0 := by rw [List.length_take]; omega
    refine RL.p T ?_
    refine RL.nil _ _ _ _ ?_
    refine hK4 _ _ _ ?_
    refine SW.seq_k fun K5 hK5 => ?_
    refine SW.seq_k fun K6 hK6 => ?_
    refine SW.region _ _ _ _ ?_
    refine RL.p T ?_
    refine RL.c fun16 (fun hs => csize m) ?_
    rintro _ _ ⟨rfl, e⟩; obtain rfl := e.symm
    refine RL.p T ?_
    refine RL.p T ?_
    refine RL.join (fr1 := ?_) 5 26 false [27, 28, 29, 30, 31] (fun hs0 hj => ?_) ?_ ?_
    rotate_left
    ·have hs0j := hs0
     try simp only [decide_eq_true_eq, Bool.not_eq_true', decide_eq_false_iff_not, Bool.not_eq_false', Int.not_lt, Int.not_le, Int.toNat_natCast, Bool.and_eq_true, Bool.or_eq_true, Bool.and_eq_false_iff, Bool.or_eq_false_iff] at hs0
     refine RL.p T ?_
     refine RL.p T ?_
     refine RL.sl T ?_ (h1 := k0)
     refine RL.c fun22 (fun hs => check _ _ _ (es.take k0) ((hR _).pre k0 hka) hl1.symm (by omega)) ?_
     rintro _ _ ⟨rfl, e⟩; obtain rfl := e.symm
     refine RL.p T ?_
     exact hj
    ·repeat first | exact Mx.refl | exact Mx.mix | refine Mx.put rfl ?_ | refine Mx.upd rfl ?_ | refine Mx.updl rfl ?_ | refine Mx.fin rfl ?_ | refine Mx.inner rfl ?_ | refine Mx.none ?_
    refine RL.or ?_
    refine RL.p T ?_
    refine RL.join (fr1 := ?_) 5 33 false [34, 35, 36, 37, 38] (fun hs1 hj => ?_) ?_ ?_
    rotate_left
    ·have hs1j := hs1
     try simp only [decide_eq_true_eq, Bool.not_eq_true', decide_eq_false_iff_not, Bool.not_eq_false', Int.not_lt, Int.not_le, Int.toNat_natCast, Bool.and_eq_true, Bool.or_eq_true, Bool.and_eq_false_iff, Bool.or_eq_false_iff] at hs1
     refine RL.p T ?_
     refine RL.p T ?_
     refine RL.sl T ?_ (h1 := k0)
     refine RL.c fun22 (fun hs => check _ _ _ (fs.take k0) ((hRb _).pre k0 hkb) hl2.symm (by omega)) ?_
     rintro _ _ ⟨rfl, e⟩; obtain rfl := e.symm
     refine RL.p T ?_
     exact hj
    ·repeat first | exact Mx.refl | exact Mx.mix | refine Mx.put rfl ?_ | refine Mx.upd rfl ?_ | refine Mx.updl rfl ?_ | refine Mx.fin rfl ?_ | refine Mx.inner rfl ?_ | refine Mx.none ?_
    refine RL.or ?_
    refine RL.nil _ _ _ _ ?_
    refine hK6 _ _ _ ?_
    refine SW.cs (fun hc1 => ?_) (fun hc1 => ?_)
    ·skip
     first
      | (exfalso; first | omega | contradiction | (simp at *; done))
      | (
       refine SW.seq_k fun K7 hK7 => ?_
       refine SW.region _ _ _ _ ?_
       refine RL.p T ?_
       refine RL.nil _ _ _ _ ?_
       refine hK7 _ _ _ ?_
       refine SW.ret ?_
       refine retQ.rr (H) ?_
       clear hK7 K7 hK6 K6 hK5 K5 hK4 K4 hK2 K2 hK1 K1 hK0 K0
       first
         | exact ⟨rfl, rfl⟩
         | (refine ⟨boolE ?_, rfl⟩; rw [belongs hA hBB (by omega)]; rfl)
       )
    ·skip
     first
      | (exfalso; first | omega | contradiction | (simp at *; done))
      | (
       refine SW.skip ?_
       refine hK5 _ _ _ ?_
       refine SW.seq_k fun K8 hK8 => ?_
       have hk0 : kz m ≠ 0 := by omega
       have hKO := kind_ok m hk0
       have hkm := hKO.hi
       have h32 : 2 ^ kz m ≤ 2 ^ 32 := Nat.pow_le_pow_right (by omega) hkm
       have hcA : chk (es.take k0) = 0 := by omega
       have hcB : chk (fs.take k0) = 0 := by omega
       have hA := chk_bit (hB.take k0) hcA
       have hBB := chk_bit (hBb.take k0) hcB
       have hgA : ∀ k, k < k0 → 0 ≤ es.getD k 0 ∧ es.getD k 0 ≤ 1 := fun k hk => by have := hA k; rwa [List.getD_eq_getElem?_getD, List.getElem?_take_of_lt hk, ← List.getD_eq_getElem?_getD] at this
       have hgB : ∀ k, k < k0 → 0 ≤ fs.getD k 0 ∧ fs.getD k 0 ≤ 1 := fun k hk => by have := hBB k; rwa [List.getD_eq_getElem?_getD, List.getElem?_take_of_lt hk, ← List.getD_eq_getElem?_getD] at this
       refine SW.draw [(40, 0), (41, 1), (42, 2), (43, 3), (8, 4), (9, 5)] [[], [0], [], [2], [1, 0], [3, 2, 4, 1, 0]] mixed (by kernel_rfl) (by kernel_rfl) ?_
       refine RD.q rfl rfl (Gd.none rfl) (pev_sound T (by conv => lhs; whnf; arg 1; whnf)) ?_
       refine RD.q rfl rfl (Gd.none rfl) (pev_sound T (by conv => lhs; whnf; arg 1; whnf)) ?_
       apply RD.shareQ2
       ·intro hsh0
        refine RD.many rfl rfl (.cons ?_ (.cons ?_ .nil))
        ·skip
         refine RD1.nv rfl (Gd.none rfl) ?_
         refine NV.mkI T ?_
         intro b41_0
         refine ⟨(Stab.cons rfl (Gd.none rfl) (pev_sound T rfl) Stab.nil), ?_⟩
         refine RD.q rfl rfl (Gd.none rfl) (pev_sound T (by conv => lhs; whnf; arg 1; whnf)) ?_
         refine RD.nv rfl rfl rfl (Gd.none rfl) ?_
         refine NV.mkI T ?_
         intro b43_1
         refine ⟨(Stab.cons rfl (Gd.none rfl) (pev_sound T rfl) (Stab.cons rfl (Gd.none rfl) (pev_sound T rfl) Stab.nil)), ?_⟩
         refine RD.q rfl rfl (Gd.none rfl) (pev_sound T (by conv => lhs; whnf; arg 1; whnf)) ?_
         refine RD.k rfl rfl ?_
         exact hsh0 b41_0 b43_1 _ (by first | exact .refl _ | exact .swap _ _ _ | exact .cons _ (.swap _ _ _) | exact .trans (.swap _ _ _) (.cons _ (.swap _ _ _)) | exact .trans (.cons _ (.swap _ _ _)) (.swap _ _ _) | exact .trans (.swap _ _ _) (.trans (.cons _ (.swap _ _ _)) (.swap _ _ _)))
        ·skip
         refine RD1.nv rfl (Gd.none rfl) ?_
         refine NV.mkI T ?_
         intro b43_0
         refine ⟨(Stab.cons rfl (Gd.none rfl) (pev_sound T rfl) Stab.nil), ?_⟩
         refine RD.nv rfl rfl rfl (Gd.none rfl) ?_
         refine NV.mkI T ?_
         intro b41_1
         refine ⟨(Stab.cons rfl (Gd.none rfl) (pev_sound T rfl) Stab.nil), ?_⟩
         refine RD.q rfl rfl (Gd.none rfl) (pev_sound T (by conv => lhs; whnf; arg 1; whnf)) ?_
         refine RD.q rfl rfl (Gd.none rfl) (pev_sound T (by conv => lhs; whnf; arg 1; whnf)) ?_
         refine RD.k rfl rfl ?_
         exact hsh0 b41_1 b43_0 _ (by first | exact .refl _ | exact .swap _ _ _ | exact .cons _ (.swap _ _ _) | exact .trans (.swap _ _ _) (.cons _ (.swap _ _ _)) | exact .trans (.cons _ (.swap _ _ _)) (.swap _ _ _) | exact .trans (.swap _ _ _) (.trans (.cons _ (.swap _ _ _)) (.swap _ _ _)))
       ·intro b41_1 b43_0 Hp6 hp6
        refine hK8 _ _ _ ?_
        refine SW.perm' hp6 ?_
        refine SW.seq_k fun K9 hK9 => ?_
        refine SW.seq_k fun K10 hK10 => ?_
        refine SW.region _ _ _ _ ?_
        refine RL.p T ?_
        refine RL.p T ?_
        refine RL.nil _ _ _ _ ?_
        refine hK10 _ _ _ ?_
        refine SW.block ?_
        refine SW.loopM (fun frB mm fr ds HH => ∃ (k : Nat) , mm = k0 - k ∧ (k ≤ k0 ∧ (True)) ∧ FrIs [10, 45, 46, 47, 48, 49, 50, 51, 52, 53, 54, 55, 56, 57, 58, 59, 60] frB fr [(45, .int .i64 k)] ∧ ds = [] ∧ HH = (.row (some ⟨b43_0, 0, none⟩) k0 k0 5 1 (List.replicate k0 (.int .u8 0)) :: .row (some ⟨b41_1, 0, none⟩) k0 k0 5 1 ((diffL es fs k0 k).map (.int .u8)) :: H)) (n := k0 - 0) ?_ ?_
        ·exact ⟨0, rfl, ⟨Nat.zero_le _, trivial⟩, (.cons rfl (.nil (by repeat first | exact Mx.refl | exact Mx.mix | refine Mx.put rfl ?_ | refine Mx.upd rfl ?_ | refine Mx.updl rfl ?_ | refine Mx.fin rfl ?_ | refine Mx.inner rfl ?_ | refine Mx.none ?_))), rfl, (by simp [diffL])⟩
        ·rintro mm fr ds HH ⟨k, rfl, ⟨hk, _⟩, hFr, rfl, eHH⟩
         obtain rfl := eHH.symm
         obtain ⟨frU, rfl⟩ := hFr.eq
         clear hFr
         refine SW.seq_k fun K11 hK11 => ?_
         refine SW.region _ _ _ _ ?_
         refine RL.p T ?_
         refine RL.nil _ _ _ _ ?_
         refine hK11 _ _ _ ?_
         refine SW.seq_k fun K12 hK12 => ?_
         refine SW.cs (fun hc2 => ?_) (fun hc2 => ?_)
         ·skip
          first
           | (exfalso; first | omega | contradiction | (simp at *; done))
           | (
            refine SW.skip ?_
            refine hK12 _ _ _ ?_
            refine SW.seq_k fun K13 hK13 => ?_
            refine SW.block ?_
            refine SW.seq_k fun K14 hK14 => ?_
            refine SW.region _ _ _ _ ?_
            refine RL.p T ?_
            refine RL.p T ?_
            refine RL.nil _ _ _ _ ?_
            refine hK14 _ _ _ ?_
            refine SW.draw [(48, 0), (49, 1), (50, 2), (51, 3), (52, 4), (53, 5), (54, 6), (55, 7), (56, 8), (57, 9), (58, 10), (59, 11)] [[], [], [], [], [2, 3], [4, 2, 3], [], [], [6, 7], [8, 6, 7], [5, 4, 2, 3, 9, 8, 6, 7], [0, 1, 2, 3, 4, 5, 6, 7, 8, 9, 10], [11, 0, 1, 2, 3, 4, 5, 6, 7, 8, 9, 10]] mixed (by kernel_rfl) (by kernel_rfl) ?_
            refine RD.q rfl rfl (Gd.none rfl) (pev_sound T (by conv => lhs; whnf; arg 1; whnf)) ?_
            refine RD.q rfl rfl (Gd.none rfl) (pev_sound T (by conv => lhs; whnf; arg 1; whnf)) ?_
            refine RD.q rfl rfl (Gd.none rfl) (pev_sound T (by conv => lhs; whnf; arg 1; whnf)) ?_
            refine RD.q rfl rfl (Gd.none rfl) (pev_sound T (by conv => lhs; whnf; arg 1; whnf)) ?_
            refine RD.q rfl rfl (Gd.none rfl) (by first | exact QV.indexAddr_array T rfl rfl rfl rfl rfl (by omega) (by omega) | exact QV.indexAddr_slice T rfl rfl rfl rfl rfl (Rd.some (by first | exact hR _ | exact hRb _ | exact hR [] | exact hRb []) (by omega)) (by omega) (by omega)) ?_
            refine RD.q rfl rfl (Gd.none rfl) (by first | exact QV.load_var1 T rfl rfl rfl rfl (by repeat first | exact At.head _ _ | assumption | exact At.put (by assumption) _ | apply At.tail | apply At.app) rfl | exact QV.load_varN T rfl rfl rfl rfl rfl (by repeat first | exact At.head _ _ | assumption | exact At.put (by assumption) _ | apply At.tail | apply At.app) (by exact (rfl : _ = [_])) rfl | exact QV.load_elem T rfl rfl rfl rfl (by first | exact hR _ | exact hRb _ | exact hR [] | exact hRb []) (by first | exact map_get _ _ (by omega) | assumption)) ?_
            refine RD.q rfl rfl (Gd.none rfl) (pev_sound T (by conv => lhs; whnf; arg 1; whnf)) ?_
            refine RD.q rfl rfl (Gd.none rfl) (pev_sound T (by conv => lhs; whnf; arg 1; whnf)) ?_
            refine RD.q rfl rfl (Gd.none rfl) (by first | exact QV.indexAddr_array T rfl rfl rfl rfl rfl (by omega) (by omega) | exact QV.indexAddr_slice T rfl rfl rfl rfl rfl (Rd.some (by first | exact hR _ | exact hRb _ | exact hR [] | exact hRb []) (by omega)) (by omega) (by omega)) ?_
            refine RD.q rfl rfl (Gd.none rfl) (by first | exact QV.load_var1 T rfl rfl rfl rfl (by repeat first | exact At.head _ _ | assumption | exact At.put (by assumption) _ | apply At.tail | apply At.app) rfl | exact QV.load_varN T rfl rfl rfl rfl rfl (by repeat first | exact At.head _ _ | assumption | exact At.put (by assumption) _ | apply At.tail | apply At.app) (by exact (rfl : _ = [_])) rfl | exact QV.load_elem T rfl rfl rfl rfl (by first | exact hR _ | exact hRb _ | exact hR [] | exact hRb []) (by first | exact map_get _ _ (by omega) | assumption)) ?_
            refine RD.q rfl rfl (Gd.none rfl) (pev_sound T (by conv => lhs; whnf; arg 1; whnf)) ?_
            refine RD.q rfl rfl (Gd.none rfl) (QV.indexAddr_slice T rfl rfl rfl rfl rfl rfl (by omega) (by omega)) ?_
            refine RD.nv rfl rfl rfl (Gd.none rfl) ?_
            first
              | refine NV.store_var1 T rfl rfl rfl rfl (by conv => lhs; whnf) rfl (by repeat first | exact At.head _ _ | assumption | exact At.put (by assumption) _ | apply At.tail | apply At.app) rfl rfl ?_
              | refine NV.store_var T rfl rfl rfl (by exact (rfl : _ = [_])) rfl rfl (by repeat first | exact At.head _ _ | assumption | exact At.put (by assumption) _ | apply At.tail | apply At.app) (Nat.le_of_ble_eq_true rfl) rfl ?_
              | refine NV.store_elem T rfl rfl rfl rfl (by conv => lhs; whnf) rfl (by repeat first | exact At.head _ _ | assumption | exact At.put (by assumption) _ | apply At.tail | apply At.app) (by rw [List.length_map, diffL_len (by omega) (by omega) (by omega), Int.toNat_natCast]; omega) ?_
            refine ⟨Stab.nil, ?_⟩
            refine RD.k rfl rfl ?_
            refine hK13 _ _ _ ?_
            refine SW.region _ _ _ _ ?_
            first | refine RL.ar ?_ | refine RL.p T ?_
            refine RL.p T ?_
            refine RL.nil _ _ _ _ ?_
            exact ⟨k0 - (k + 1), (by omega), k + 1, (by rfl), ⟨by omega, trivial⟩, (.cons rfl (.nil (by repeat first | exact Mx.refl | exact Mx.mix | refine Mx.put rfl ?_ | refine Mx.upd rfl ?_ | refine Mx.updl rfl ?_ | refine Mx.fin rfl ?_ | refine Mx.inner rfl ?_ | refine Mx.none ?_))), rfl, (by rw [Int.toNat_natCast, ← diffL_set (by omega) (by omega) (by omega), ← xorb (hgA k (by omega)) (hgB k (by omega)), List.map_set])⟩
            )
         ·skip
          first
           | (exfalso; first | omega | contradiction | (simp at *; done))
           | (
            refine SW.exit ?_
            refine hK9 _ _ _ ?_
            refine SW.seq_k fun K15 hK15 => ?_
            obtain rfl : k0 = k := by omega
            rw [diffL_end]
            have hlA : (es.take k0).length = k0 := by rw [List.length_take]; omega
            have hlZ : (List.zipWith bx (es.take k0) (fs.take k0)).length = k0 := by rw [List.length_zipWith, List.length_take, List.length_take]; omega
            have hZb : Bit (List.zipWith bx (es.take k0) (fs.take k0)) := zip_bit _ _
            refine SW.region _ _ _ _ ?_
            refine RL.p T ?_
            refine RL.nil _ _ _ _ ?_
            refine hK15 _ _ _ ?_
            refine SW.seq_k fun K16 hK16 => ?_
            refine SW.seq_k fun K17 hK17 => ?_
            refine SW.drawQ [(61, 0), (62, 1), (63, 2), (64, 3), (65, 4), (66, 5), (67, 6), (68, 7), (69, 8), (70, 9)] [[], [], [0, 1], [], [], [3, 4], [], [], [2, 0, 1, 5, 3, 4, 6, 7], []] mixed (by kernel_rfl) (by kernel_rfl) ?_
            refine QL.p T ?_
            refine QL.p T ?_
            refine QL.sl T ?_ (h1 := k0)
            refine QL.p T ?_
            refine QL.p T ?_
            refine QL.sl T ?_ (h1 := k0)
            refine QL.p T ?_
            refine QL.p T ?_
            refine QL.step (by first | exact Gd.none rfl | exact Gd.yes rfl rfl | exact Gd.yes rfl (congrArg Value.bool (by assumption))) rfl (by first | exact QV.buildc T rfl (rfl : _ = some [_, _, _, _]) | exact pev_sound T (rfl : _ = some (Value.agg #[_, _, _, _]))) ?_
            refine QL.p T ?_
            refine QL.nil ?_
            refine hK17 _ _ _ ?_
            refine SW.block ?_
            refine SW.loopM (fun frB mm fr ds HH => ∃ (k : Nat), mm = 4 - k ∧ (k ≤ 4) ∧ FrIs [6, 11, 13, 14, 15, 70, 71, 72, 73, 74, 75, 76, 77, 78, 79, 80, 81, 82, 83, 84] frB fr [(11, .int .u64 ((belN m (es.take k0) (fs.take k0) k : Nat) : Int)), (70, .int .i64 k)] ∧ ds = [] ∧ HH = (.row (some ⟨b43_0, 0, none⟩) k0 k0 5 1 (List.replicate k0 (.int .u8 0)) :: .row (some ⟨b41_1, 0, none⟩) k0 k0 5 1 ((List.zipWith bx (es.take k0) (fs.take k0)).map (.int .u8)) :: H)) (n := 4 - 0) ?_ ?_
            ·exact ⟨0, rfl, by omega, (.cons rfl (.consI rfl (by first | omega | rfl) (.nil (by repeat first | exact Mx.refl | exact Mx.mix | refine Mx.put rfl ?_ | refine Mx.upd rfl ?_ | refine Mx.updl rfl ?_ | refine Mx.fin rfl ?_ | refine Mx.inner rfl ?_ | refine Mx.none ?_)))), rfl, rfl⟩
            ·rintro mm fr ds HH ⟨k, rfl, hk4, hFr, rfl, eHH⟩
             obtain rfl := eHH.symm
             obtain ⟨frU, rfl⟩ := hFr.eq
             clear hFr
             rcases (by omega : k = 0 ∨ k = 1 ∨ k = 2 ∨ k = 3 ∨ k = 4) with rfl | rfl | rfl | rfl | rfl
             ·skip
              refine SW.seq_k fun K18 hK18 => ?_
              refine SW.region _ _ _ _ ?_
              refine RL.p T ?_
              refine RL.nil _ _ _ _ ?_
              refine hK18 _ _ _ ?_
              refine SW.seq_k fun K19 hK19 => ?_
              refine SW.cs (fun hc3 => ?_) (fun hc3 => ?_)
              ·skip
               first
                | (exfalso; first | omega | contradiction | (simp at *; done))
                | (
                 refine SW.skip ?_
                 refine hK19 _ _ _ ?_
                 refine SW.seq_k fun K20 hK20 => ?_
                 refine SW.block ?_
                 refine SW.seq_k fun K21 hK21 => ?_
                 refine SW.region _ _ _ _ ?_
                 refine RL.p T ?_
                 refine RL.p T ?_
                 refine RL.nil _ _ _ _ ?_
                 refine hK21 _ _ _ ?_
                 refine SW.seq_k fun K22 hK22 => ?_
                 refine SW.region _ _ _ _ ?_
                 refine RL.p T ?_
                 refine RL.p T ?_
                 refine RL.c fun11 (fun hs => ((csum m _ _ _ (es.take k0) ((hR _).pre k0 hka) hl1.symm (by omega) (hB.take k0)).mono (fun v H' hh => by rw [moreV_ok hk0 hcA hKO.s] at hh; exact hh))) ?_
                 rintro _ _ ⟨rfl, e⟩; obtain rfl := e.symm
                 refine RL.p T ?_
                 refine RL.p T ?_
                 refine RL.p T ?_
                 refine RL.p T ?_
                 refine RL.p T ?_
                 refine RL.nil _ _ _ _ ?_
                 refine hK22 _ _ _ ?_
                 refine SW.seq_k fun K23 hK23 => ?_
                 refine SW.seq_k fun K24 hK24 => ?_
                 refine SW.region _ _ _ _ ?_
                 refine RL.p T ?_
                 refine RL.p T ?_
                 refine RL.nil _ _ _ _ ?_
                 refine hK24 _ _ _ ?_
                 refine SW.cs (fun hc4 => ?_) (fun hc4 => ?_)
                 ·skip
                  first
                   | (exfalso; first | omega | contradiction | (simp at *; done))
                   | (
                    refine SW.seq_k fun K25 hK25 => ?_
                    refine SW.region _ _ _ _ ?_
                    refine RL.p T ?_
                    refine RL.nil _ _ _ _ ?_
                    refine hK25 _ _ _ ?_
                    refine SW.ret ?_
                    refine retQ.rr (H) ?_
                    clear hK25 K25 hK24 K24 hK23 K23 hK22 K22 hK21 K21 hK20 K20 hK19 K19 hK18 K18 hK17 K17 hK16 K16 hK15 K15 hK12 K12 hK11 K11 hK10 K10 hK9 K9 hK8 K8 hK6 K6 hK5 K5 hK4 K4 hK2 K2 hK1 K1 hK0 K0
                    first
                      | exact ⟨rfl, rfl⟩
                      | (refine ⟨boolE ?_, rfl⟩; rw [belongs hA hBB (by omega)]; rfl)
                    )
                 ·skip
                  first
                   | (exfalso; first | omega | contradiction | (simp at *; done))
                   | (
                    refine SW.skip ?_
                    refine hK23 _ _ _ ?_
                    refine SW.region _ _ _ _ ?_
                    refine RL.p T ?_
                    refine RL.p T ?_
                    refine RL.q (QV.xorN (b := sumAt m (es.take k0) (fs.take k0) 0) T rfl rfl rfl (by have := bel_lt (m := m) hk0 (es.take k0) (fs.take k0) 0; omega) (by have := sum_lt (m := m) hk0 (es.take k0) (fs.take k0) 0; omega)) ?_
                    refine RL.p T ?_
                    refine RL.nil _ _ _ _ ?_
                    refine hK20 _ _ _ ?_
                    refine SW.region _ _ _ _ ?_
                    first | refine RL.ar ?_ | refine RL.p T ?_
                    refine RL.p T ?_
                    refine RL.nil _ _ _ _ ?_
                    exact ⟨4 - 1, (by omega), 1, (by rfl), by omega, (.cons rfl (.consI rfl (by first | omega | rfl) (.nil (by repeat first | exact Mx.refl | exact Mx.mix | refine Mx.put rfl ?_ | refine Mx.upd rfl ?_ | refine Mx.updl rfl ?_ | refine Mx.fin rfl ?_ | refine Mx.inner rfl ?_ | refine Mx.none ?_)))), rfl, rfl⟩
                    )
                 )
              ·skip
               first
                | (exfalso; first | omega | contradiction | (simp at *; done))
                | (
                 refine SW.exit ?_
                 refine hK16 _ _ _ ?_
                 refine SW.seq_k fun K26 hK26 => ?_
                 refine SW.region _ _ _ _ ?_
                 refine RL.p T ?_
                 refine RL.p T ?_
                 refine RL.p T ?_
                 refine RL.nil _ _ _ _ ?_
                 refine hK26 _ _ _ ?_
                 refine SW.ret ?_
                 refine retQ.rr (H) ?_
                 clear hK26 K26 hK19 K19 hK18 K18 hK17 K17 hK16 K16 hK15 K15 hK12 K12 hK11 K11 hK10 K10 hK9 K9 hK8 K8 hK6 K6 hK5 K5 hK4 K4 hK2 K2 hK1 K1 hK0 K0
                 first
                   | exact ⟨rfl, rfl⟩
                   | (refine ⟨boolE ?_, rfl⟩; rw [belongs hA hBB (by omega)]; rfl)
                 )
             ·skip
              refine SW.seq_k fun K27 hK27 => ?_
              refine SW.region _ _ _ _ ?_
              refine RL.p T ?_
              refine RL.nil _ _ _ _ ?_
              refine hK27 _ _ _ ?_
              refine SW.seq_k fun K28 hK28 => ?_
              refine SW.cs (fun hc5 => ?_) (fun hc5 => ?_)
              ·skip
               first
                | (exfalso; first | omega | contradiction | (simp at *; done))
                | (
                 refine SW.skip ?_
                 refine hK28 _ _ _ ?_
                 refine SW.seq_k fun K29 hK29 => ?_
                 refine SW.block ?_
                 refine SW.seq_k fun K30 hK30 => ?_
                 refine SW.region _ _ _ _ ?_
                 refine RL.p T ?_
                 refine RL.p T ?_
                 refine RL.nil _ _ _ _ ?_
                 refine hK30 _ _ _ ?_
                 refine SW.seq_k fun K31 hK31 => ?_
                 refine SW.region _ _ _ _ ?_
                 refine RL.p T ?_
                 refine RL.p T ?_
                 refine RL.c fun11 (fun hs => ((csum m _ _ _ (fs.take k0) ((hRb _).pre k0 hkb) hl2.symm (by omega) (hBb.take k0)).mono (fun v H' hh => by rw [moreV_ok hk0 hcB hKO.s] at hh; exact hh))) ?_
                 rintro _ _ ⟨rfl, e⟩; obtain rfl := e.symm
                 refine RL.p T ?_
                 refine RL.p T ?_
                 refine RL.p T ?_
                 refine RL.p T ?_
                 refine RL.p T ?_
                 refine RL.nil _ _ _ _ ?_
                 refine hK31 _ _ _ ?_
                 refine SW.seq_k fun K32 hK32 => ?_
                 refine SW.seq_k fun K33 hK33 => ?_
                 refine SW.region _ _ _ _ ?_
                 refine RL.p T ?_
                 refine RL.p T ?_
                 refine RL.nil _ _ _ _ ?_
                 refine hK33 _ _ _ ?_
                 refine SW.cs (fun hc6 => ?_) (fun hc6 => ?_)
                 ·skip
                  first
                   | (exfalso; first | omega | contradiction | (simp at *; done))
                   | (
                    refine SW.seq_k fun K34 hK34 => ?_
                    refine SW.region _ _ _ _ ?_
                    refine RL.p T ?_
                    refine RL.nil _ _ _ _ ?_
                    refine hK34 _ _ _ ?_
                    refine SW.ret ?_
                    refine retQ.rr (H) ?_
                    clear hK34 K34 hK33 K33 hK32 K32 hK31 K31 hK30 K30 hK29 K29 hK28 K28 hK27 K27 hK17 K17 hK16 K16 hK15 K15 hK12 K12 hK11 K11 hK10 K10 hK9 K9 hK8 K8 hK6 K6 hK5 K5 hK4 K4 hK2 K2 hK1 K1 hK0 K0
                    first
                      | exact ⟨rfl, rfl⟩
                      | (refine ⟨boolE ?_, rfl⟩; rw [belongs hA hBB (by omega)]; rfl)
                    )
                 ·skip
                  first
                   | (exfalso; first | omega | contradiction | (simp at *; done))
                   | (
                    refine SW.skip ?_
                    refine hK32 _ _ _ ?_
                    refine SW.region _ _ _ _ ?_
                    refine RL.p T ?_
                    refine RL.p T ?_
                    refine RL.q (QV.xorN (b := sumAt m (es.take k0) (fs.take k0) 1) T rfl rfl rfl (by have := bel_lt (m := m) hk0 (es.take k0) (fs.take k0) 1; omega) (by have := sum_lt (m := m) hk0 (es.take k0) (fs.take k0) 1; omega)) ?_
                    refine RL.p T ?_
                    refine RL.nil _ _ _ _ ?_
                    refine hK29 _ _ _ ?_
                    refine SW.region _ _ _ _ ?_
                    first | refine RL.ar ?_ | refine RL.p T ?_
                    refine RL.p T ?_
                    refine RL.nil _ _ _ _ ?_
                    exact ⟨4 - 2, (by omega), 2, (by rfl), by omega, (.cons rfl (.consI rfl (by first | omega | rfl) (.nil (by repeat first | exact Mx.refl | exact Mx.mix | refine Mx.put rfl ?_ | refine Mx.upd rfl ?_ | refine Mx.updl rfl ?_ | refine Mx.fin rfl ?_ | refine Mx.inner rfl ?_ | refine Mx.none ?_)))), rfl, rfl⟩
                    )
                 )
              ·skip
               first
                | (exfalso; first | omega | contradiction | (simp at *; done))
                | (
                 refine SW.exit ?_
                 refine hK16 _ _ _ ?_
                 refine SW.seq_k fun K35 hK35 => ?_
                 refine SW.region _ _ _ _ ?_
                 refine RL.p T ?_
                 refine RL.p T ?_
                 refine RL.p T ?_
                 refine RL.nil _ _ _ _ ?_
                 refine hK35 _ _ _ ?_
                 refine SW.ret ?_
                 refine retQ.rr (H) ?_
                 clear hK35 K35 hK28 K28 hK27 K27 hK17 K17 hK16 K16 hK15 K15 hK12 K12 hK11 K11 hK10 K10 hK9 K9 hK8 K8 hK6 K6 hK5 K5 hK4 K4 hK2 K2 hK1 K1 hK0 K0
                 first
                   | exact ⟨rfl, rfl⟩
                   | (refine ⟨boolE ?_, rfl⟩; rw [belongs hA hBB (by omega)]; rfl)
                 )
             ·skip
              refine SW.seq_k fun K36 hK36 => ?_
              refine SW.region _ _ _ _ ?_
              refine RL.p T ?_
              refine RL.nil _ _ _ _ ?_
              refine hK36 _ _ _ ?_
              refine SW.seq_k fun K37 hK37 => ?_
              refine SW.cs (fun hc7 => ?_) (fun hc7 => ?_)
              ·skip
               first
                | (exfalso; first | omega | contradiction | (simp at *; done))
                | (
                 refine SW.skip ?_
                 refine hK37 _ _ _ ?_
                 refine SW.seq_k fun K38 hK38 => ?_
                 refine SW.block ?_
                 refine SW.seq_k fun K39 hK39 => ?_
                 refine SW.region _ _ _ _ ?_
                 refine RL.p T ?_
                 refine RL.p T ?_
                 refine RL.nil _ _ _ _ ?_
                 refine hK39 _ _ _ ?_
                 refine SW.seq_k fun K40 hK40 => ?_
                 refine SW.region _ _ _ _ ?_
                 refine RL.p T ?_
                 refine RL.p T ?_
                 refine RL.c fun11 (fun hs => ((csum m _ k0 k0 (List.zipWith bx (es.take k0) (fs.take k0)) (Rd.rowh hs (by repeat first | exact At.head _ _ | apply At.tail)) hlZ.symm (by omega) hZb.byte).mono (fun v H' hh => by rw [moreV_ok hk0 (chk_of hZb (by omega)) hKO.s] at hh; exact hh))) ?_
                 rintro _ _ ⟨rfl, e⟩; obtain rfl := e.symm
                 refine RL.p T ?_
                 refine RL.p T ?_
                 refine RL.p T ?_
                 refine RL.p T ?_
                 refine RL.p T ?_
                 refine RL.nil _ _ _ _ ?_
                 refine hK40 _ _ _ ?_
                 refine SW.seq_k fun K41 hK41 => ?_
                 refine SW.seq_k fun K42 hK42 => ?_
                 refine SW.region _ _ _ _ ?_
                 refine RL.p T ?_
                 refine RL.p T ?_
                 refine RL.nil _ _ _ _ ?_
                 refine hK42 _ _ _ ?_
                 refine SW.cs (fun hc8 => ?_) (fun hc8 => ?_)
                 ·skip
                  first
                   | (exfalso; first | omega | contradiction | (simp at *; done))
                   | (
                    refine SW.seq_k fun K43 hK43 => ?_
                    refine SW.region _ _ _ _ ?_
                    refine RL.p T ?_
                    refine RL.nil _ _ _ _ ?_
                    refine hK43 _ _ _ ?_
                    refine SW.ret ?_
                    refine retQ.rr (H) ?_
                    clear hK43 K43 hK42 K42 hK41 K41 hK40 K40 hK39 K39 hK38 K38 hK37 K37 hK36 K36 hK17 K17 hK16 K16 hK15 K15 hK12 K12 hK11 K11 hK10 K10 hK9 K9 hK8 K8 hK6 K6 hK5 K5 hK4 K4 hK2 K2 hK1 K1 hK0 K0
                    first
                      | exact ⟨rfl, rfl⟩
                      | (refine ⟨boolE ?_, rfl⟩; rw [belongs hA hBB (by omega)]; rfl)
                    )
                 ·skip
                  first
                   | (exfalso; first | omega | contradiction | (simp at *; done))
                   | (
                    refine SW.skip ?_
                    refine hK41 _ _ _ ?_
                    refine SW.region _ _ _ _ ?_
                    refine RL.p T ?_
                    refine RL.p T ?_
                    refine RL.q (QV.xorN (b := sumAt m (es.take k0) (fs.take k0) 2) T rfl rfl rfl (by have := bel_lt (m := m) hk0 (es.take k0) (fs.take k0) 2; omega) (by have := sum_lt (m := m) hk0 (es.take k0) (fs.take k0) 2; omega)) ?_
                    refine RL.p T ?_
                    refine RL.nil _ _ _ _ ?_
                    refine hK38 _ _ _ ?_
                    refine SW.region _ _ _ _ ?_
                    first | refine RL.ar ?_ | refine RL.p T ?_
                    refine RL.p T ?_
                    refine RL.nil _ _ _ _ ?_
                    exact ⟨4 - 3, (by omega), 3, (by rfl), by omega, (.cons rfl (.consI rfl (by first | omega | rfl) (.nil (by repeat first | exact Mx.refl | exact Mx.mix | refine Mx.put rfl ?_ | refine Mx.upd rfl ?_ | refine Mx.updl rfl ?_ | refine Mx.fin rfl ?_ | refine Mx.inner rfl ?_ | refine Mx.none ?_)))), rfl, rfl⟩
                    )
                 )
              ·skip
               first
                | (exfalso; first | omega | contradiction | (simp at *; done))
                | (
                 refine SW.exit ?_
                 refine hK16 _ _ _ ?_
                 refine SW.seq_k fun K44 hK44 => ?_
                 refine SW.region _ _ _ _ ?_
                 refine RL.p T ?_
                 refine RL.p T ?_
                 refine RL.p T ?_
                 refine RL.nil _ _ _ _ ?_
                 refine hK44 _ _ _ ?_
                 refine SW.ret ?_
                 refine retQ.rr (H) ?_
                 clear hK44 K44 hK37 K37 hK36 K36 hK17 K17 hK16 K16 hK15 K15 hK12 K12 hK11 K11 hK10 K10 hK9 K9 hK8 K8 hK6 K6 hK5 K5 hK4 K4 hK2 K2 hK1 K1 hK0 K0
                 first
                   | exact ⟨rfl, rfl⟩
                   | (refine ⟨boolE ?_, rfl⟩; rw [belongs hA hBB (by omega)]; rfl)
                 )
             ·skip
              refine SW.seq_k fun K45 hK45 => ?_
              refine SW.region _ _ _ _ ?_
              refine RL.p T ?_
              refine RL.nil _ _ _ _ ?_
              refine hK45 _ _ _ ?_
              refine SW.seq_k fun K46 hK46 => ?_
              refine SW.cs (fun hc9 => ?_) (fun hc9 => ?_)
              ·skip
               first
                | (exfalso; first | omega | contradiction | (simp at *; done))
                | (
                 refine SW.skip ?_
                 refine hK46 _ _ _ ?_
                 refine SW.seq_k fun K47 hK47 => ?_
                 refine SW.block ?_
                 refine SW.seq_k fun K48 hK48 => ?_
                 refine SW.region _ _ _ _ ?_
                 refine RL.p T ?_
                 refine RL.p T ?_
                 refine RL.nil _ _ _ _ ?_
                 refine hK48 _ _ _ ?_
                 refine SW.seq_k fun K49 hK49 => ?_
                 refine SW.region _ _ _ _ ?_
                 refine RL.p T ?_
                 refine RL.p T ?_
                 refine RL.c fun11 (fun hs => ((csum m _ k0 k0 (List.replicate (es.take k0).length 0) (by rw [List.map_replicate, hlA]; exact (Rd.rowh hs (by repeat first | exact At.head _ _ | apply At.tail))) (by rw [List.length_replicate, hlA]) (by omega) (bit_rep _).byte).mono (fun v H' hh => by rw [moreV_ok hk0 (chk_of (bit_rep _) (by rw [List.length_replicate]; omega)) hKO.s] at hh; exact hh))) ?_
                 rintro _ _ ⟨rfl, e⟩; obtain rfl := e.symm
                 refine RL.p T ?_
                 refine RL.p T ?_
                 refine RL.p T ?_
                 refine RL.p T ?_
                 refine RL.p T ?_
                 refine RL.nil _ _ _ _ ?_
                 refine hK49 _ _ _ ?_
                 refine SW.seq_k fun K50 hK50 => ?_
                 refine SW.seq_k fun K51 hK51 => ?_
                 refine SW.region _ _ _ _ ?_
                 refine RL.p T ?_
                 refine RL.p T ?_
                 refine RL.nil _ _ _ _ ?_
                 refine hK51 _ _ _ ?_
                 refine SW.cs (fun hc10 => ?_) (fun hc10 => ?_)
                 ·skip
                  first
                   | (exfalso; first | omega | contradiction | (simp at *; done))
                   | (
                    refine SW.seq_k fun K52 hK52 => ?_
                    refine SW.region _ _ _ _ ?_
                    refine RL.p T ?_
                    refine RL.nil _ _ _ _ ?_
                    refine hK52 _ _ _ ?_
                    refine SW.ret ?_
                    refine retQ.rr (H) ?_
                    clear hK52 K52 hK51 K51 hK50 K50 hK49 K49 hK48 K48 hK47 K47 hK46 K46 hK45 K45 hK17 K17 hK16 K16 hK15 K15 hK12 K12 hK11 K11 hK10 K10 hK9 K9 hK8 K8 hK6 K6 hK5 K5 hK4 K4 hK2 K2 hK1 K1 hK0 K0
                    first
                      | exact ⟨rfl, rfl⟩
                      | (refine ⟨boolE ?_, rfl⟩; rw [belongs hA hBB (by omega)]; rfl)
                    )
                 ·skip
                  first
                   | (exfalso; first | omega | contradiction | (simp at *; done))
                   | (
                    refine SW.skip ?_
                    refine hK50 _ _ _ ?_
                    refine SW.region _ _ _ _ ?_
                    refine RL.p T ?_
                    refine RL.p T ?_
                    refine RL.q (QV.xorN (b := sumAt m (es.take k0) (fs.take k0) 3) T rfl rfl rfl (by have := bel_lt (m := m) hk0 (es.take k0) (fs.take k0) 3; omega) (by have := sum_lt (m := m) hk0 (es.take k0) (fs.take k0) 3; omega)) ?_
                    refine RL.p T ?_
                    refine RL.nil _ _ _ _ ?_
                    refine hK47 _ _ _ ?_
                    refine SW.region _ _ _ _ ?_
                    first | refine RL.ar ?_ | refine RL.p T ?_
                    refine RL.p T ?_
                    refine RL.nil _ _ _ _ ?_
                    exact ⟨4 - 4, (by omega), 4, (by rfl), by omega, (.cons rfl (.consI rfl (by first | omega | rfl) (.nil (by repeat first | exact Mx.refl | exact Mx.mix | refine Mx.put rfl ?_ | refine Mx.upd rfl ?_ | refine Mx.updl rfl ?_ | refine Mx.fin rfl ?_ | refine Mx.inner rfl ?_ | refine Mx.none ?_)))), rfl, rfl⟩
                    )
                 )
              ·skip
               first
                | (exfalso; first | omega | contradiction | (simp at *; done))
                | (
                 refine SW.exit ?_
                 refine hK16 _ _ _ ?_
                 refine SW.seq_k fun K53 hK53 => ?_
                 refine SW.region _ _ _ _ ?_
                 refine RL.p T ?_
                 refine RL.p T ?_
                 refine RL.p T ?_
                 refine RL.nil _ _ _ _ ?_
                 refine hK53 _ _ _ ?_
                 refine SW.ret ?_
                 refine retQ.rr (H) ?_
                 clear hK53 K53 hK46 K46 hK45 K45 hK17 K17 hK16 K16 hK15 K15 hK12 K12 hK11 K11 hK10 K10 hK9 K9 hK8 K8 hK6 K6 hK5 K5 hK4 K4 hK2 K2 hK1 K1 hK0 K0
                 first
                   | exact ⟨rfl, rfl⟩
                   | (refine ⟨boolE ?_, rfl⟩; rw [belongs hA hBB (by omega)]; rfl)
                 )
             ·skip
              refine SW.seq_k fun K54 hK54 => ?_
              refine SW.region _ _ _ _ ?_
              refine RL.p T ?_
              refine RL.nil _ _ _ _ ?_
              refine hK54 _ _ _ ?_
              refine SW.seq_k fun K55 hK55 => ?_
              refine SW.cs (fun hc11 => ?_) (fun hc11 => ?_)
              ·skip
               exfalso; first | omega | contradiction | (simp at *; done)
              ·skip
               first
                | (exfalso; first | omega | contradiction | (simp at *; done))
                | (
                 refine SW.exit ?_
                 refine hK16 _ _ _ ?_
                 refine SW.seq_k fun K56 hK56 => ?_
                 refine SW.region _ _ _ _ ?_
                 refine RL.p T ?_
                 refine RL.p T ?_
                 refine RL.p T ?_
                 refine RL.nil _ _ _ _ ?_
                 refine hK56 _ _ _ ?_
                 refine SW.ret ?_
                 refine retQ.rr (H) ?_
                 clear hK56 K56 hK55 K55 hK54 K54 hK17 K17 hK16 K16 hK15 K15 hK12 K12 hK11 K11 hK10 K10 hK9 K9 hK8 K8 hK6 K6 hK5 K5 hK4 K4 hK2 K2 hK1 K1 hK0 K0
                 first
                   | exact ⟨rfl, rfl⟩
                   | (refine ⟨boolE ?_, rfl⟩; rw [belongs hA hBB (by omega)]; rfl)
                 )
            )
       )
    )
end Go.Proofs.Ytmdmlhhhaidebaa.M
