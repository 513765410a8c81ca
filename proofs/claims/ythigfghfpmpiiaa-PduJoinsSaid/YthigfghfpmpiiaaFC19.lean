import Derived.Test.YthigfghfpmpiiaaProg
import Derived.Test.YthigfghfpmpiiaaFB19
set_option linter.unusedVariables false
set_option linter.unusedSimpArgs false
namespace Go.Proofs.Ythigfghfpmpiiaa.M
open Go Go.Sep Go.Proofs
set_option maxRecDepth 10000
set_option maxHeartbeats 2000000
theorem pjoin {w0 : World} {H : List Chunk} (ps : List Pd) (sr : Option Addr) (nr cr : Nat) (hB : Rd w0 H sr nr cr 2 (ps.flatMap PdC)) (hnr : nr = ps.length) (hmr : nr ≤ 4398046511000) (hps : ∀ k, PdOk w0 H (ps.getD k default)) : SC Try.prog w0 6 #[.slice sr nr cr] H (fun v H' => ∃ a c, v = .tuple #[.slice a (joinV ps).1.length c, .int .i64 (joinV ps).2] ∧ H' = .row a (joinV ps).1.length c 5 1 (List.map (Value.int .u8) ((joinV ps).1)) :: H) := by
 refine SC.enter Try.func6 rfl (Nat.le_of_ble_eq_true rfl) ?_
 refine SW.seq_k fun K0 hK0 => ?_
 refine SW.region _ _ _ _ ?_
 refine RL.p T ?_
 refine RL.p T ?_
 refine RL.nil _ _ _ _ ?_
 refine hK0 _ _ _ ?_
 refine SW.seq_k fun K1 hK1 => ?_
 refine SW.seq_k fun K2 hK2 => ?_
 refine SW.region _ _ _ _ ?_
 refine RL.p T ?_
 refine RL.p T ?_
 refine RL.p T ?_
 refine RL.nil _ _ _ _ ?_
 refine hK2 _ _ _ ?_
 refine SW.cs (fun hc0 => ?_) (fun hc0 => ?_)
 ·skip
  first
   | (exfalso; first | omega | contradiction)
   | (
    refine SW.seq_k fun K3 hK3 => ?_
    refine SW.nilrow 5 1 ?_
    refine SW.region _ _ _ _ ?_
    refine RL.p T ?_
    refine RL.p T ?_
    refine RL.nil _ _ _ _ ?_
    refine hK3 _ _ _ ?_
    refine SW.ret ?_
    refine retQ.rr ((.row none 0 0 5 1 (List.map (Value.int .u8) []) :: H)) ?_
    clear hK3 K3 hK2 K2 hK1 K1 hK0 K0
    first
      | (have hJ : joinV ps = ([], 9) := joinV_nil (by omega); exact ⟨_, _, (by rw [hJ]; try rfl), (by rw [hJ]; try rfl)⟩)
      | (have h2 : (sizeP (ps.getD k default)).2 = 2 := by have := sizeP_or (ps.getD k default); omega
         rw [h2]
         (have hJ : joinV ps = ([], 2) := (joinV_cons (by omega)).trans (hinv.trans (join_bad (by omega) (by omega))); exact ⟨_, _, (by rw [hJ]; try rfl), (by rw [hJ]; try rfl)⟩))
      | (have hJ : joinV ps = ([], 2) := (joinV_cons (by omega)).trans (hinv.trans (join_bad (by omega) (by omega))); exact ⟨_, _, (by rw [hJ]; try rfl), (by rw [hJ]; try rfl)⟩)
      | (subst hmo
         (have hJ : joinV ps = (out, 0) := (joinV_cons (by omega)).trans (hinv.trans (join_end (by omega))); exact ⟨_, _, (by rw [hJ]; try rfl), (by rw [hJ]; try rfl)⟩))
    )
 ·skip
  first
   | (exfalso; first | omega | contradiction)
   | (
    refine SW.skip ?_
    refine hK1 _ _ _ ?_
    refine SW.seq_k fun K4 hK4 => ?_
    refine SW.region _ _ _ _ ?_
    refine RL.nilrow 5 1 ?_
    refine RL.p T ?_
    refine RL.nil _ _ _ _ ?_
    refine hK4 _ _ _ ?_
    refine SW.seq_k fun K5 hK5 => ?_
    refine SW.seq_k fun K6 hK6 => ?_
    refine SW.region _ _ _ _ ?_
    refine RL.p T ?_
    refine RL.p T ?_
    refine RL.p T ?_
    refine RL.nil _ _ _ _ ?_
    refine hK6 _ _ _ ?_
    refine SW.block ?_
    refine SW.loopM (fun frB mm fr ds HH => ∃ (k m : Nat) (a : Option Addr) (c : Nat) (out : List Int), mm = nr - k ∧ (k ≤ nr ∧ m = out.length ∧ m ≤ 2048 ∧ joinS ps [] = joinS (ps.drop k) out) ∧ FrIs [2, 3, 4, 6, 7, 8, 14, 15, 16, 17, 18, 19, 20, 21, 22, 23, 24, 25, 26, 27, 28, 29, 30, 31, 32, 33, 34, 35] frB fr [(4, .slice a m c), (14, .int .i64 k)] ∧ ds = [] ∧ HH = (.row a m c 5 1 (List.map (Value.int .u8) (out)) :: H)) (n := nr - 0) ?_ ?_
    ·exact ⟨0, 0, none, 0, [], rfl, ⟨Nat.zero_le _, rfl, by omega, rfl⟩, (.cons rfl (.consI rfl (by first | omega | rfl) (.nil (by repeat first | exact Mx.refl | exact Mx.mix | refine Mx.put rfl ?_ | refine Mx.upd rfl ?_ | refine Mx.updl rfl ?_ | refine Mx.fin rfl ?_ | refine Mx.inner rfl ?_ | refine Mx.none ?_)))), rfl, rfl⟩
    ·rintro mm fr ds HH ⟨k, m, a, c, out, rfl, ⟨hk, hmo, hml, hinv⟩, hFr, rfl, eHH⟩
     obtain rfl := eHH.symm
     obtain ⟨frU, rfl⟩ := hFr.eq
     clear hFr
     have hsz := sizeP_rng (ps.getD k default)
     refine SW.seq_k fun K7 hK7 => ?_
     refine SW.region _ _ _ _ ?_
     refine RL.p T ?_
     refine RL.nil _ _ _ _ ?_
     refine hK7 _ _ _ ?_
     refine SW.seq_k fun K8 hK8 => ?_
     refine SW.cs (fun hc1 => ?_) (fun hc1 => ?_)
     ·skip
      first
       | (exfalso; first | omega | contradiction)
       | (
        refine SW.skip ?_
        refine hK8 _ _ _ ?_
        refine SW.seq_k fun K9 hK9 => ?_
        refine SW.block ?_
        refine SW.seq_k fun K10 hK10 => ?_
        refine SW.region _ _ _ _ ?_
        refine RL.ix T ?_ (hR := fun hs => hB.cons)
        refine RL.leN T ?_ (hR := fun hs => hB.cons) (hvs := (by exact (rfl : _ = [_, _])))
        refine RL.s ?_
        refine NV.alloc T rfl rfl rfl (by exact (rfl : _ = [_, _])) ?_
        intro b6_0
        refine RL.s ?_
        first
          | refine NV.store_var1 T rfl rfl rfl rfl (by conv => lhs; whnf) rfl (by repeat first | exact At.head _ _ | assumption | exact At.put (by assumption) _ | apply At.tail | apply At.app) rfl (by exact (rfl : _ = [_, _])) ?_
          | refine NV.store_var T rfl rfl rfl (by exact (rfl : _ = [_, _])) rfl rfl (by repeat first | exact At.head _ _ | assumption | exact At.put (by assumption) _ | apply At.tail | apply At.app) (Nat.le_of_ble_eq_true rfl) (by exact (rfl : _ = [_, _])) ?_
          | refine NV.store_elem T rfl rfl rfl rfl (by conv => lhs; whnf) rfl (by repeat first | exact At.head _ _ | assumption | exact At.put (by assumption) _ | apply At.tail | apply At.app) (by omega) ?_
        refine RL.nil _ _ _ _ ?_
        refine hK10 _ _ _ ?_
        refine SW.seq_k fun K11 hK11 => ?_
        refine SW.region _ _ _ _ ?_
        refine RL.lvN T rfl rfl rfl rfl rfl (by repeat first | exact At.head _ _ | assumption | exact At.put (by assumption) _ | apply At.tail | apply At.app) (by exact (rfl : _ = [_, _])) ?_
        refine RL.c fun10 (fun hs => psize (ps.getD k default) (hps k).cons.cons) ?_
        rintro _ _ ⟨rfl, e⟩; obtain rfl := e.symm
        refine RL.p T ?_
        refine RL.p T ?_
        refine RL.p T ?_
        refine RL.p T ?_
        refine RL.p T ?_
        refine RL.nil _ _ _ _ ?_
        refine hK11 _ _ _ ?_
        refine SW.seq_k fun K12 hK12 => ?_
        refine SW.seq_k fun K13 hK13 => ?_
        refine SW.region _ _ _ _ ?_
        refine RL.p T ?_
        refine RL.p T ?_
        refine RL.p T ?_
        refine RL.join (fr1 := ?_) 5 25 false [26, 27, 28, 29, 30] (fun hs0 hj => ?_) ?_ ?_
        rotate_left
        ·have hs0j := hs0
         try simp only [decide_eq_true_eq, Bool.not_eq_true', decide_eq_false_iff_not, Bool.not_eq_false', Int.not_lt, Int.not_le, Int.toNat_natCast, Bool.and_eq_true, Bool.or_eq_true, Bool.and_eq_false_iff, Bool.or_eq_false_iff] at hs0
         refine RL.p T ?_
         refine RL.p T ?_
         refine RL.p T ?_
         first | refine RL.ar ?_ | refine RL.p T ?_
         refine RL.p T ?_
         exact hj
        ·repeat first | exact Mx.refl | exact Mx.mix | refine Mx.put rfl ?_ | refine Mx.upd rfl ?_ | refine Mx.updl rfl ?_ | refine Mx.fin rfl ?_ | refine Mx.inner rfl ?_ | refine Mx.none ?_
        refine RL.or ?_
        refine RL.nil _ _ _ _ ?_
        refine hK13 _ _ _ ?_
        refine SW.cs (fun hc2 => ?_) (fun hc2 => ?_)
        ·skip
         first
          | (exfalso; first | omega | contradiction)
          | (
           refine SW.seq_k fun K14 hK14 => ?_
           refine SW.nilrow 5 1 ?_
           refine SW.region _ _ _ _ ?_
           refine RL.p T ?_
           refine RL.p T ?_
           refine RL.nil _ _ _ _ ?_
           refine hK14 _ _ _ ?_
           refine SW.ret ?_
           refine retQ.rr ((.row none 0 0 5 1 (List.map (Value.int .u8) []) :: H)) ?_
           clear hK14 K14 hK13 K13 hK12 K12 hK11 K11 hK10 K10 hK9 K9 hK8 K8 hK7 K7 hK6 K6 hK5 K5 hK4 K4 hK2 K2 hK1 K1 hK0 K0
           first
             | (have hJ : joinV ps = ([], 9) := joinV_nil (by omega); exact ⟨_, _, (by rw [hJ]; try rfl), (by rw [hJ]; try rfl)⟩)
             | (have h2 : (sizeP (ps.getD k default)).2 = 2 := by have := sizeP_or (ps.getD k default); omega
                rw [h2]
                (have hJ : joinV ps = ([], 2) := (joinV_cons (by omega)).trans (hinv.trans (join_bad (by omega) (by omega))); exact ⟨_, _, (by rw [hJ]; try rfl), (by rw [hJ]; try rfl)⟩))
             | (have hJ : joinV ps = ([], 2) := (joinV_cons (by omega)).trans (hinv.trans (join_bad (by omega) (by omega))); exact ⟨_, _, (by rw [hJ]; try rfl), (by rw [hJ]; try rfl)⟩)
             | (subst hmo
                (have hJ : joinV ps = (out, 0) := (joinV_cons (by omega)).trans (hinv.trans (join_end (by omega))); exact ⟨_, _, (by rw [hJ]; try rfl), (by rw [hJ]; try rfl)⟩))
           )
        ·skip
         first
          | (exfalso; first | omega | contradiction)
          | (
           refine SW.skip ?_
           refine hK12 _ _ _ ?_
           have hz0 : (sizeP (ps.getD k default)).2 = 0 := by omega
           have hz := sizeP_0 hz0
           refine SW.region _ _ _ _ ?_
           refine RL.p T ?_
           refine RL.lvN T rfl rfl rfl rfl rfl (by repeat first | exact At.head _ _ | assumption | exact At.put (by assumption) _ | apply At.tail | apply At.app) (by exact (rfl : _ = [_, _])) ?_
           refine RL.c fun12 (fun hs => SC.swap (pput (ps.getD k default) (hps k).cons a m c out hmo hml hz.1)) ?_
           rintro _ _ ⟨a3, c3, rfl, e⟩; obtain rfl := e.symm
           refine RL.p T ?_
           refine RL.perm (.swap _ _ _) (RL.drop ?_)
           refine RL.nil _ _ _ _ ?_
           refine hK9 _ _ _ ?_
           refine SW.region _ _ _ _ ?_
           first | refine RL.ar ?_ | refine RL.p T ?_
           refine RL.p T ?_
           refine RL.nil _ _ _ _ ?_
           exact ⟨nr - (k + 1), (by omega), k + 1, m + wholeN (ps.getD k default).data.length, a3, c3, out ++ bytesP (ps.getD k default), (by rfl), ⟨by omega, by rw [List.length_append, bytesP_len, hmo], by omega, hinv.trans (join_step (by omega) hz0 (by omega))⟩, (.cons rfl (.consI rfl (by first | omega | rfl) (.nil (by repeat first | exact Mx.refl | exact Mx.mix | refine Mx.put rfl ?_ | refine Mx.upd rfl ?_ | refine Mx.updl rfl ?_ | refine Mx.fin rfl ?_ | refine Mx.inner rfl ?_ | refine Mx.none ?_)))), rfl, rfl⟩
           )
        )
     ·skip
      first
       | (exfalso; first | omega | contradiction)
       | (
        refine SW.exit ?_
        refine hK5 _ _ _ ?_
        refine SW.seq_k fun K15 hK15 => ?_
        refine SW.region _ _ _ _ ?_
        refine RL.p T ?_
        refine RL.p T ?_
        refine RL.p T ?_
        refine RL.nil _ _ _ _ ?_
        refine hK15 _ _ _ ?_
        refine SW.ret ?_
        refine retQ.rr ((.row a m c 5 1 (List.map (Value.int .u8) (out)) :: H)) ?_
        clear hK15 K15 hK8 K8 hK7 K7 hK6 K6 hK5 K5 hK4 K4 hK2 K2 hK1 K1 hK0 K0
        first
          | (have hJ : joinV ps = ([], 9) := joinV_nil (by omega); exact ⟨_, _, (by rw [hJ]; try rfl), (by rw [hJ]; try rfl)⟩)
          | (have h2 : (sizeP (ps.getD k default)).2 = 2 := by have := sizeP_or (ps.getD k default); omega
             rw [h2]
             (have hJ : joinV ps = ([], 2) := (joinV_cons (by omega)).trans (hinv.trans (join_bad (by omega) (by omega))); exact ⟨_, _, (by rw [hJ]; try rfl), (by rw [hJ]; try rfl)⟩))
          | (have hJ : joinV ps = ([], 2) := (joinV_cons (by omega)).trans (hinv.trans (join_bad (by omega) (by omega))); exact ⟨_, _, (by rw [hJ]; try rfl), (by rw [hJ]; try rfl)⟩)
          | (subst hmo
             (have hJ : joinV ps = (out, 0) := (joinV_cons (by omega)).trans (hinv.trans (join_end (by omega))); exact ⟨_, _, (by rw [hJ]; try rfl), (by rw [hJ]; try rfl)⟩))
        )
    )
theorem rjoin {w0 : World} {H : List Chunk} (ps : List Pd) (sr : Option Addr) (nr cr : Nat) (hB : Rd w0 H sr nr cr 2 (ps.flatMap PdC)) (hnr : nr = ps.length) (hmr : nr ≤ 4398046511000) (hps : ∀ k, PdOk w0 H (ps.getD k default)) : SC Try.prog w0 8 #[.slice sr nr cr] H (fun v H' => ∃ a c, v = .tuple #[.slice a (joinV ps).1.length c, .int .i64 (joinV ps).2] ∧ H' = .row a (joinV ps).1.length c 5 1 (List.map (Value.int .u8) ((joinV ps).1)) :: H) := by
 refine SC.enter Try.func8 rfl (Nat.le_of_ble_eq_true rfl) ?_
 refine SW.seq_k fun K0 hK0 => ?_
 refine SW.region _ _ _ _ ?_
 refine RL.p T ?_
 refine RL.p T ?_
 refine RL.nil _ _ _ _ ?_
 refine hK0 _ _ _ ?_
 refine SW.seq_k fun K1 hK1 => ?_
 refine SW.seq_k fun K2 hK2 => ?_
 refine SW.region _ _ _ _ ?_
 refine RL.p T ?_
 refine RL.p T ?_
 refine RL.p T ?_
 refine RL.nil _ _ _ _ ?_
 refine hK2 _ _ _ ?_
 refine SW.cs (fun hc0 => ?_) (fun hc0 => ?_)
 ·skip
  first
   | (exfalso; first | omega | contradiction)
   | (
    refine SW.seq_k fun K3 hK3 => ?_
    refine SW.nilrow 5 1 ?_
    refine SW.region _ _ _ _ ?_
    refine RL.p T ?_
    refine RL.p T ?_
    refine RL.nil _ _ _ _ ?_
    refine hK3 _ _ _ ?_
    refine SW.ret ?_
    have hor := sizeP_or
    refine retQ.rr ((.row none 0 0 5 1 (List.map (Value.int .u8) []) :: H)) ?_
    clear hK3 K3 hK2 K2 hK1 K1 hK0 K0
    first
      | (have hJ : joinV ps = ([], 9) := joinV_nil (by omega); exact ⟨_, _, (by rw [hJ]; try rfl), (by rw [hJ]; try rfl)⟩)
      | (have h2 : (sizeP (ps.getD k default)).2 = 2 := by have := sizeP_or (ps.getD k default); omega
         rw [h2]
         (have hJ : joinV ps = ([], 2) := (joinV_cons (by omega)).trans (hinv.trans (join_bad (by omega) (by omega))); exact ⟨_, _, (by rw [hJ]; try rfl), (by rw [hJ]; try rfl)⟩))
      | (have hJ : joinV ps = ([], 2) := (joinV_cons (by omega)).trans (hinv.trans (join_bad (by omega) (by omega))); exact ⟨_, _, (by rw [hJ]; try rfl), (by rw [hJ]; try rfl)⟩)
      | (subst hmo
         (have hJ : joinV ps = (out, 0) := (joinV_cons (by omega)).trans (hinv.trans (join_end (by omega))); exact ⟨_, _, (by rw [hJ]; try rfl), (by rw [hJ]; try rfl)⟩))
    )
 ·skip
  first
   | (exfalso; first | omega | contradiction)
   | (
    refine SW.skip ?_
    refine hK1 _ _ _ ?_
    refine SW.seq_k fun K4 hK4 => ?_
    refine SW.region _ _ _ _ ?_
    refine RL.nilrow 5 1 ?_
    refine RL.p T ?_
    refine RL.nil _ _ _ _ ?_
    refine hK4 _ _ _ ?_
    refine SW.seq_k fun K5 hK5 => ?_
    refine SW.seq_k fun K6 hK6 => ?_
    refine SW.region _ _ _ _ ?_
    refine RL.p T ?_
    refine RL.p T ?_
    refine RL.p T ?_
    refine RL.nil _ _ _ _ ?_
    refine hK6 _ _ _ ?_
    refine SW.block ?_
    refine SW.loopM (fun frB mm fr ds HH => ∃ (k m : Nat) (a : Option Addr) (c : Nat) (out : List Int), mm = nr - k ∧ (k ≤ nr ∧ m = out.length ∧ m ≤ 2048 ∧ joinS ps [] = joinS (ps.drop k) out) ∧ FrIs [2, 3, 4, 6, 7, 8, 14, 15, 16, 17, 18, 19, 20, 21, 22, 23, 24, 25, 26, 27, 28, 29, 30, 31, 32, 33] frB fr [(4, .slice a m c), (14, .int .i64 k)] ∧ ds = [] ∧ HH = (.row a m c 5 1 (List.map (Value.int .u8) (out)) :: H)) (n := nr - 0) ?_ ?_
    ·exact ⟨0, 0, none, 0, [], rfl, ⟨Nat.zero_le _, rfl, by omega, rfl⟩, (.cons rfl (.consI rfl (by first | omega | rfl) (.nil (by repeat first | exact Mx.refl | exact Mx.mix | refine Mx.put rfl ?_ | refine Mx.upd rfl ?_ | refine Mx.updl rfl ?_ | refine Mx.fin rfl ?_ | refine Mx.inner rfl ?_ | refine Mx.none ?_)))), rfl, rfl⟩
    ·rintro mm fr ds HH ⟨k, m, a, c, out, rfl, ⟨hk, hmo, hml, hinv⟩, hFr, rfl, eHH⟩
     obtain rfl := eHH.symm
     obtain ⟨frU, rfl⟩ := hFr.eq
     clear hFr
     have hsz := sizeP_rng (ps.getD k default)
     refine SW.seq_k fun K7 hK7 => ?_
     refine SW.region _ _ _ _ ?_
     refine RL.p T ?_
     refine RL.nil _ _ _ _ ?_
     refine hK7 _ _ _ ?_
     refine SW.seq_k fun K8 hK8 => ?_
     refine SW.cs (fun hc1 => ?_) (fun hc1 => ?_)
     ·skip
      first
       | (exfalso; first | omega | contradiction)
       | (
        refine SW.skip ?_
        refine hK8 _ _ _ ?_
        refine SW.seq_k fun K9 hK9 => ?_
        refine SW.block ?_
        refine SW.seq_k fun K10 hK10 => ?_
        refine SW.region _ _ _ _ ?_
        refine RL.ix T ?_
        refine RL.leN T ?_ (hvs := (by exact (rfl : _ = [_, _])))
        refine RL.s ?_
        refine NV.alloc T rfl rfl rfl (by exact (rfl : _ = [_, _])) ?_
        intro b6_0
        refine RL.s ?_
        first
          | refine NV.store_var1 T rfl rfl rfl rfl (by conv => lhs; whnf) rfl (by repeat first | exact At.head _ _ | assumption | exact At.put (by assumption) _ | apply At.tail | apply At.app) rfl (by exact (rfl : _ = [_, _])) ?_
          | refine NV.store_var T rfl rfl rfl (by exact (rfl : _ = [_, _])) rfl rfl (by repeat first | exact At.head _ _ | assumption | exact At.put (by assumption) _ | apply At.tail | apply At.app) (Nat.le_of_ble_eq_true rfl) (by exact (rfl : _ = [_, _])) ?_
          | refine NV.store_elem T rfl rfl rfl rfl (by conv => lhs; whnf) rfl (by repeat first | exact At.head _ _ | assumption | exact At.put (by assumption) _ | apply At.tail | apply At.app) (by omega) ?_
        refine RL.nil _ _ _ _ ?_
        refine hK10 _ _ _ ?_
        refine SW.seq_k fun K11 hK11 => ?_
        refine SW.seq_k fun K12 hK12 => ?_
        refine SW.region _ _ _ _ ?_
        refine RL.lvN T rfl rfl rfl rfl rfl (by repeat first | exact At.head _ _ | assumption | exact At.put (by assumption) _ | apply At.tail | apply At.app) (by exact (rfl : _ = [_, _])) ?_
        refine RL.c fun11 (fun hs => rsize (ps.getD k default) (hps k).cons.cons) ?_
        rintro _ _ ⟨rfl, e⟩; obtain rfl := e.symm
        refine RL.p T ?_
        refine RL.p T ?_
        refine RL.p T ?_
        refine RL.p T ?_
        refine RL.p T ?_
        refine RL.nil _ _ _ _ ?_
        refine hK12 _ _ _ ?_
        refine SW.seq_k fun K13 hK13 => ?_
        refine SW.region _ _ _ _ ?_
        refine RL.p T ?_
        refine RL.p T ?_
        refine RL.nil _ _ _ _ ?_
        refine hK13 _ _ _ ?_
        refine SW.cs (fun hc2 => ?_) (fun hc2 => ?_)
        ·skip
         first
          | (exfalso; first | omega | contradiction)
          | (
           refine SW.seq_k fun K14 hK14 => ?_
           refine SW.nilrow 5 1 ?_
           refine SW.region _ _ _ _ ?_
           refine RL.p T ?_
           refine RL.p T ?_
           refine RL.p T ?_
           refine RL.nil _ _ _ _ ?_
           refine hK14 _ _ _ ?_
           refine SW.ret ?_
           have hor := sizeP_or
           refine retQ.rr ((.row none 0 0 5 1 (List.map (Value.int .u8) []) :: H)) ?_
           clear hK14 K14 hK13 K13 hK12 K12 hK11 K11 hK10 K10 hK9 K9 hK8 K8 hK7 K7 hK6 K6 hK5 K5 hK4 K4 hK2 K2 hK1 K1 hK0 K0
           first
             | (have hJ : joinV ps = ([], 9) := joinV_nil (by omega); exact ⟨_, _, (by rw [hJ]; try rfl), (by rw [hJ]; try rfl)⟩)
             | (have h2 : (sizeP (ps.getD k default)).2 = 2 := by have := sizeP_or (ps.getD k default); omega
                rw [h2]
                (have hJ : joinV ps = ([], 2) := (joinV_cons (by omega)).trans (hinv.trans (join_bad (by omega) (by omega))); exact ⟨_, _, (by rw [hJ]; try rfl), (by rw [hJ]; try rfl)⟩))
             | (have hJ : joinV ps = ([], 2) := (joinV_cons (by omega)).trans (hinv.trans (join_bad (by omega) (by omega))); exact ⟨_, _, (by rw [hJ]; try rfl), (by rw [hJ]; try rfl)⟩)
             | (subst hmo
                (have hJ : joinV ps = (out, 0) := (joinV_cons (by omega)).trans (hinv.trans (join_end (by omega))); exact ⟨_, _, (by rw [hJ]; try rfl), (by rw [hJ]; try rfl)⟩))
           )
        ·skip
         first
          | (exfalso; first | omega | contradiction)
          | (
           refine SW.skip ?_
           refine hK11 _ _ _ ?_
           refine SW.seq_k fun K15 hK15 => ?_
           have hz0 : (sizeP (ps.getD k default)).2 = 0 := by omega
           have hz := sizeP_0 hz0
           refine SW.region _ _ _ _ ?_
           refine RL.p T ?_
           refine RL.lvN T rfl rfl rfl rfl rfl (by repeat first | exact At.head _ _ | assumption | exact At.put (by assumption) _ | apply At.tail | apply At.app) (by exact (rfl : _ = [_, _])) ?_
           refine RL.c fun13 (fun hs => pone (ps.getD k default) (hps k).cons.cons hz.1) ?_
           rintro _ _ ⟨a3, c3, rfl, e⟩; obtain rfl := e.symm
           first | refine RL.apI1 (ki := .u8) T (fun a0_ c0_ => ?_) | refine RL.apI (ki := .u8) T (fun a0_ c0_ => ?_) | refine RL.apI (ki := .u8) (xs := []) T (fun a0_ c0_ => ?_)
           refine RL.p T ?_
           refine RL.drop (RL.drop ?_)
           refine RL.nil _ _ _ _ ?_
           refine hK15 _ _ _ ?_
           refine SW.seq_k fun K16 hK16 => ?_
           refine SW.region _ _ _ _ ?_
           refine RL.p T ?_
           refine RL.p T ?_
           refine RL.p T ?_
           refine RL.nil _ _ _ _ ?_
           refine hK16 _ _ _ ?_
           refine SW.cs (fun hc3 => ?_) (fun hc3 => ?_)
           ·skip
            first
             | (exfalso; first | omega | contradiction)
             | (
              refine SW.seq_k fun K17 hK17 => ?_
              refine SW.nilrow 5 1 ?_
              refine SW.region _ _ _ _ ?_
              refine RL.p T ?_
              refine RL.p T ?_
              refine RL.nil _ _ _ _ ?_
              refine hK17 _ _ _ ?_
              refine SW.ret ?_
              have hor := sizeP_or
              refine retQ.rr ((.row none 0 0 5 1 (List.map (Value.int .u8) []) :: H)) ?_
              clear hK17 K17 hK16 K16 hK15 K15 hK13 K13 hK12 K12 hK11 K11 hK10 K10 hK9 K9 hK8 K8 hK7 K7 hK6 K6 hK5 K5 hK4 K4 hK2 K2 hK1 K1 hK0 K0
              first
                | (have hJ : joinV ps = ([], 9) := joinV_nil (by omega); exact ⟨_, _, (by rw [hJ]; try rfl), (by rw [hJ]; try rfl)⟩)
                | (have h2 : (sizeP (ps.getD k default)).2 = 2 := by have := sizeP_or (ps.getD k default); omega
                   rw [h2]
                   (have hJ : joinV ps = ([], 2) := (joinV_cons (by omega)).trans (hinv.trans (join_bad (by omega) (by omega))); exact ⟨_, _, (by rw [hJ]; try rfl), (by rw [hJ]; try rfl)⟩))
                | (have hJ : joinV ps = ([], 2) := (joinV_cons (by omega)).trans (hinv.trans (join_bad (by omega) (by omega))); exact ⟨_, _, (by rw [hJ]; try rfl), (by rw [hJ]; try rfl)⟩)
                | (subst hmo
                   (have hJ : joinV ps = (out, 0) := (joinV_cons (by omega)).trans (hinv.trans (join_end (by omega))); exact ⟨_, _, (by rw [hJ]; try rfl), (by rw [hJ]; try rfl)⟩))
              )
           ·skip
            first
             | (exfalso; first | omega | contradiction)
             | (
              refine SW.skip ?_
              refine hK9 _ _ _ ?_
              refine SW.region _ _ _ _ ?_
              first | refine RL.ar ?_ | refine RL.p T ?_
              refine RL.p T ?_
              refine RL.nil _ _ _ _ ?_
              exact ⟨nr - (k + 1), (by omega), k + 1, m + wholeN (ps.getD k default).data.length, a0_, c0_, out ++ bytesP (ps.getD k default), (by rfl), ⟨by omega, by rw [List.length_append, bytesP_len, hmo], by omega, hinv.trans (join_step (by omega) hz0 (by omega))⟩, (.cons rfl (.consI rfl (by first | omega | rfl) (.nil (by repeat first | exact Mx.refl | exact Mx.mix | refine Mx.put rfl ?_ | refine Mx.upd rfl ?_ | refine Mx.updl rfl ?_ | refine Mx.fin rfl ?_ | refine Mx.inner rfl ?_ | refine Mx.none ?_)))), rfl, rfl⟩
              )
           )
        )
     ·skip
      first
       | (exfalso; first | omega | contradiction)
       | (
        refine SW.exit ?_
        refine hK5 _ _ _ ?_
        refine SW.seq_k fun K18 hK18 => ?_
        refine SW.region _ _ _ _ ?_
        refine RL.p T ?_
        refine RL.p T ?_
        refine RL.p T ?_
        refine RL.nil _ _ _ _ ?_
        refine hK18 _ _ _ ?_
        refine SW.ret ?_
        have hor := sizeP_or
        refine retQ.rr ((.row a m c 5 1 (List.map (Value.int .u8) (out)) :: H)) ?_
        clear hK18 K18 hK8 K8 hK7 K7 hK6 K6 hK5 K5 hK4 K4 hK2 K2 hK1 K1 hK0 K0
        first
          | (have hJ : joinV ps = ([], 9) := joinV_nil (by omega); exact ⟨_, _, (by rw [hJ]; try rfl), (by rw [hJ]; try rfl)⟩)
          | (have h2 : (sizeP (ps.getD k default)).2 = 2 := by have := sizeP_or (ps.getD k default); omega
             rw [h2]
             (have hJ : joinV ps = ([], 2) := (joinV_cons (by omega)).trans (hinv.trans (join_bad (by omega) (by omega))); exact ⟨_, _, (by rw [hJ]; try rfl), (by rw [hJ]; try rfl)⟩))
          | (have hJ : joinV ps = ([], 2) := (joinV_cons (by omega)).trans (hinv.trans (join_bad (by omega) (by omega))); exact ⟨_, _, (by rw [hJ]; try rfl), (by rw [hJ]; try rfl)⟩)
          | (subst hmo
             (have hJ : joinV ps = (out, 0) := (joinV_cons (by omega)).trans (hinv.trans (join_end (by omega))); exact ⟨_, _, (by rw [hJ]; try rfl), (by rw [hJ]; try rfl)⟩))
        )
    )
theorem pto {w0 : World} {H : List Chunk} (ps : List Pd) (sr : Option Addr) (nr cr : Nat) (hB : Rd w0 H sr nr cr 2 (ps.flatMap PdC)) (hnr : nr = ps.length) (hmr : nr ≤ 4398046511000) (hps : ∀ k, PdOk w0 H (ps.getD k default)) : SC Try.prog w0 7 #[.slice sr nr cr] H (fun v H' => ∃ a c, v = .slice a nr c ∧ H' = .row a nr c 38 2 (ps.flatMap PdC) :: H) := by
 refine SC.enter Try.func7 rfl (Nat.le_of_ble_eq_true rfl) ?_
 refine SW.seq_k fun K0 hK0 => ?_
 refine SW.region _ _ _ _ ?_
 refine RL.p T ?_
 refine RL.nil _ _ _ _ ?_
 refine hK0 _ _ _ ?_
 refine SW.seq_k fun K1 hK1 => ?_
 refine SW.region _ _ _ _ ?_
 refine RL.nilrow 38 2 ?_
 refine RL.p T ?_
 refine RL.nil _ _ _ _ ?_
 refine hK1 _ _ _ ?_
 refine SW.seq_k fun K2 hK2 => ?_
 refine SW.seq_k fun K3 hK3 => ?_
 refine SW.region _ _ _ _ ?_
 refine RL.p T ?_
 refine RL.p T ?_
 refine RL.p T ?_
 refine RL.nil _ _ _ _ ?_
 refine hK3 _ _ _ ?_
 refine SW.block ?_
 refine SW.loopM (fun frB mm fr ds HH => ∃ (k : Nat) (a : Option Addr) (c : Nat), mm = nr - k ∧ (k ≤ nr) ∧ FrIs [3, 5, 8, 9, 10, 11, 12, 13, 14, 15, 16] frB fr [(3, .slice a k c), (8, .int .i64 k)] ∧ ds = [] ∧ HH = (.row a k c 38 2 ((ps.take k).flatMap PdC) :: H)) (n := nr - 0) ?_ ?_
 ·exact ⟨0, none, 0, rfl, Nat.zero_le _, (.cons rfl (.consI rfl (by first | omega | rfl) (.nil (by repeat first | exact Mx.refl | exact Mx.mix | refine Mx.put rfl ?_ | refine Mx.upd rfl ?_ | refine Mx.updl rfl ?_ | refine Mx.fin rfl ?_ | refine Mx.inner rfl ?_ | refine Mx.none ?_)))), rfl, rfl⟩
 ·rintro mm fr ds HH ⟨k, a, c, rfl, hk, hFr, rfl, eHH⟩
  obtain rfl := eHH.symm
  obtain ⟨frU, rfl⟩ := hFr.eq
  clear hFr
  refine SW.seq_k fun K4 hK4 => ?_
  refine SW.region _ _ _ _ ?_
  refine RL.p T ?_
  refine RL.nil _ _ _ _ ?_
  refine hK4 _ _ _ ?_
  refine SW.seq_k fun K5 hK5 => ?_
  refine SW.cs (fun hc0 => ?_) (fun hc0 => ?_)
  ·skip
   refine SW.skip ?_
   refine hK5 _ _ _ ?_
   refine SW.seq_k fun K6 hK6 => ?_
   refine SW.block ?_
   refine SW.seq_k fun K7 hK7 => ?_
   refine SW.region _ _ _ _ ?_
   refine RL.ix T ?_
   refine RL.leN T ?_ (hvs := (by exact (rfl : _ = [_, _])))
   refine RL.s ?_
   refine NV.alloc T rfl rfl rfl (by exact (rfl : _ = [_, _])) ?_
   intro b5_0
   refine RL.s ?_
   first
     | refine NV.store_var1 T rfl rfl rfl rfl (by conv => lhs; whnf) rfl (by repeat first | exact At.head _ _ | assumption | exact At.put (by assumption) _ | apply At.tail | apply At.app) rfl (by exact (rfl : _ = [_, _])) ?_
     | refine NV.store_var T rfl rfl rfl (by exact (rfl : _ = [_, _])) rfl rfl (by repeat first | exact At.head _ _ | assumption | exact At.put (by assumption) _ | apply At.tail | apply At.app) (Nat.le_of_ble_eq_true rfl) (by exact (rfl : _ = [_, _])) ?_
     | refine NV.store_elem T rfl rfl rfl rfl (by conv => lhs; whnf) rfl (by repeat first | exact At.head _ _ | assumption | exact At.put (by assumption) _ | apply At.tail | apply At.app) (by omega) ?_
   refine RL.nil _ _ _ _ ?_
   refine hK7 _ _ _ ?_
   refine SW.region _ _ _ _ ?_
   refine RL.p T ?_
   refine RL.lvN T rfl rfl rfl rfl rfl (by repeat first | exact At.head _ _ | assumption | exact At.put (by assumption) _ | apply At.tail | apply At.app) (by exact (rfl : _ = [_, _])) ?_
   refine RL.bs T rfl rfl rfl (by exact (rfl : _ = some [_, _])) (fun b14_1 => ?_)
   refine RL.apS T ([(ps.getD k default)]) (fun a0_ c0_ => ?_)
   refine RL.p T ?_
   refine RL.drop ?_
   refine RL.nil _ _ _ _ ?_
   refine hK6 _ _ _ ?_
   refine SW.region _ _ _ _ ?_
   first | refine RL.ar ?_ | refine RL.p T ?_
   refine RL.p T ?_
   refine RL.nil _ _ _ _ ?_
   exact ⟨nr - (k + 1), (by omega), k + 1, a0_, c0_, (by rfl), by omega, (.cons rfl (.consI rfl (by first | omega | rfl) (.nil (by repeat first | exact Mx.refl | exact Mx.mix | refine Mx.put rfl ?_ | refine Mx.upd rfl ?_ | refine Mx.updl rfl ?_ | refine Mx.fin rfl ?_ | refine Mx.inner rfl ?_ | refine Mx.none ?_)))), rfl, (by rw [pd_snoc (by omega)]; rfl)⟩
  ·skip
   refine SW.exit ?_
   refine hK2 _ _ _ ?_
   refine SW.seq_k fun K8 hK8 => ?_
   refine SW.region _ _ _ _ ?_
   refine RL.p T ?_
   refine RL.p T ?_
   refine RL.nil _ _ _ _ ?_
   refine hK8 _ _ _ ?_
   refine SW.ret ?_
   obtain rfl : k = nr := by omega
   rw [List.take_of_length_le (by omega)]
   refine retQ.rr ((.row a k c 38 2 (ps.flatMap PdC) :: H)) ?_
   clear hK8 K8 hK5 K5 hK4 K4 hK3 K3 hK2 K2 hK1 K1 hK0 K0
   exact ⟨a, c, rfl, rfl⟩
theorem great {w0 : World} {H : List Chunk} (ps : List Pd) (sr : Option Addr) (nr cr : Nat) (hB : Rd w0 H sr nr cr 2 (ps.flatMap PdC)) (hnr : nr = ps.length) (hmr : nr ≤ 4398046511000) (hps : ∀ k, PdOk w0 H (ps.getD k default)) : SC Try.prog w0 5 #[.slice sr nr cr] H (fun v H' => ∃ b, v = .bool b ∧ H' = H ∧ (b = false → nr ≤ 500)) := by
 refine SC.enter Try.func5 rfl (Nat.le_of_ble_eq_true rfl) ?_
 refine SW.seq_k fun K0 hK0 => ?_
 have hmx := fun k => (hps k).max
 refine SW.region _ _ _ _ ?_
 refine RL.p T ?_
 refine RL.nil _ _ _ _ ?_
 refine hK0 _ _ _ ?_
 refine SW.seq_k fun K1 hK1 => ?_
 refine SW.region _ _ _ _ ?_
 refine RL.p T ?_
 refine RL.nil _ _ _ _ ?_
 refine hK1 _ _ _ ?_
 refine SW.seq_k fun K2 hK2 => ?_
 refine SW.seq_k fun K3 hK3 => ?_
 refine SW.region _ _ _ _ ?_
 refine RL.p T ?_
 refine RL.p T ?_
 refine RL.p T ?_
 refine RL.nil _ _ _ _ ?_
 refine hK3 _ _ _ ?_
 refine SW.block ?_
 refine SW.loopM (fun frB mm fr ds HH => ∃ (k : Nat) (s : Int), mm = nr - k ∧ (k ≤ nr) ∧ FrIs [3, 5, 8, 9, 10, 11, 12, 13, 14, 15, 16, 17] frB fr [(3, .int .i64 s), (8, .int .i64 k)] ∧ ds = [] ∧ HH = H) (n := nr - 0) ?_ ?_
 ·exact ⟨0, 0, rfl, Nat.zero_le _, (.cons rfl (.consI rfl (by first | omega | rfl) (.nil (by repeat first | exact Mx.refl | exact Mx.mix | refine Mx.put rfl ?_ | refine Mx.upd rfl ?_ | refine Mx.updl rfl ?_ | refine Mx.fin rfl ?_ | refine Mx.inner rfl ?_ | refine Mx.none ?_)))), rfl, rfl⟩
 ·rintro mm fr ds HH ⟨k, s, rfl, hk, hFr, rfl, eHH⟩
  obtain rfl := eHH.symm
  obtain ⟨frU, rfl⟩ := hFr.eq
  clear hFr
  refine SW.seq_k fun K4 hK4 => ?_
  refine SW.region _ _ _ _ ?_
  refine RL.p T ?_
  refine RL.nil _ _ _ _ ?_
  refine hK4 _ _ _ ?_
  refine SW.seq_k fun K5 hK5 => ?_
  refine SW.cs (fun hc0 => ?_) (fun hc0 => ?_)
  ·skip
   refine SW.skip ?_
   refine hK5 _ _ _ ?_
   refine SW.seq_k fun K6 hK6 => ?_
   refine SW.block ?_
   refine SW.seq_k fun K7 hK7 => ?_
   refine SW.region _ _ _ _ ?_
   refine RL.ix T ?_
   refine RL.leN T ?_ (hvs := (by exact (rfl : _ = [_, _])))
   refine RL.s ?_
   refine NV.alloc T rfl rfl rfl (by exact (rfl : _ = [_, _])) ?_
   intro b5_0
   refine RL.s ?_
   first
     | refine NV.store_var1 T rfl rfl rfl rfl (by conv => lhs; whnf) rfl (by repeat first | exact At.head _ _ | assumption | exact At.put (by assumption) _ | apply At.tail | apply At.app) rfl (by exact (rfl : _ = [_, _])) ?_
     | refine NV.store_var T rfl rfl rfl (by exact (rfl : _ = [_, _])) rfl rfl (by repeat first | exact At.head _ _ | assumption | exact At.put (by assumption) _ | apply At.tail | apply At.app) (Nat.le_of_ble_eq_true rfl) (by exact (rfl : _ = [_, _])) ?_
     | refine NV.store_elem T rfl rfl rfl rfl (by conv => lhs; whnf) rfl (by repeat first | exact At.head _ _ | assumption | exact At.put (by assumption) _ | apply At.tail | apply At.app) (by omega) ?_
   refine RL.nil _ _ _ _ ?_
   refine hK7 _ _ _ ?_
   refine SW.region _ _ _ _ ?_
   refine RL.p T ?_
   refine RL.p T ?_
   refine RL.lv1 T ?_
   refine RL.p T ?_
   first | refine RL.ar ?_ | refine RL.p T ?_
   refine RL.p T ?_
   refine RL.drop ?_
   refine RL.nil _ _ _ _ ?_
   refine hK6 _ _ _ ?_
   refine SW.region _ _ _ _ ?_
   first | refine RL.ar ?_ | refine RL.p T ?_
   refine RL.p T ?_
   refine RL.nil _ _ _ _ ?_
   exact ⟨nr - (k + 1), (by omega), k + 1, _, (by rfl), by omega, (.cons rfl (.consI rfl (by first | omega | rfl) (.nil (by repeat first | exact Mx.refl | exact Mx.mix | refine Mx.put rfl ?_ | refine Mx.upd rfl ?_ | refine Mx.updl rfl ?_ | refine Mx.fin rfl ?_ | refine Mx.inner rfl ?_ | refine Mx.none ?_)))), rfl, rfl⟩
  ·skip
   refine SW.exit ?_
   refine hK2 _ _ _ ?_
   refine SW.seq_k fun K8 hK8 => ?_
   refine SW.region _ _ _ _ ?_
   refine RL.p T ?_
   refine RL.p T ?_
   refine RL.p T ?_
   refine RL.p T ?_
   refine RL.join (fr1 := ?_) 2 21 false [22, 23] (fun hs0 hj => ?_) ?_ ?_
   rotate_left
   ·have hs0j := hs0
    try simp only [decide_eq_true_eq, Bool.not_eq_true', decide_eq_false_iff_not, Bool.not_eq_false', Int.not_lt, Int.not_le, Int.toNat_natCast, Bool.and_eq_true, Bool.or_eq_true, Bool.and_eq_false_iff, Bool.or_eq_false_iff] at hs0
    refine RL.p T ?_
    refine RL.p T ?_
    exact hj
   ·repeat first | exact Mx.refl | exact Mx.mix | refine Mx.put rfl ?_ | refine Mx.upd rfl ?_ | refine Mx.updl rfl ?_ | refine Mx.fin rfl ?_ | refine Mx.inner rfl ?_ | refine Mx.none ?_
   refine RL.or ?_
   refine RL.p T ?_
   refine RL.nil _ _ _ _ ?_
   refine hK8 _ _ _ ?_
   refine SW.ret ?_
   refine retQ.rr (H) ?_
   clear hK8 K8 hK5 K5 hK4 K4 hK3 K3 hK2 K2 hK1 K1 hK0 K0
   refine ⟨_, rfl, rfl, ?_⟩
   intro h
   simp at h
   omega
end Go.Proofs.Ythigfghfpmpiiaa.M
