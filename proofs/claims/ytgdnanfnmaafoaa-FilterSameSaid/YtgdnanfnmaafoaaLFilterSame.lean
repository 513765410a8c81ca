import Derived.Test.YtgdnanfnmaafoaaProg
import Derived.Test.YtgdnanfnmaafoaaFH15
import Derived.Test.YtgdnanfnmaafoaaP15c
set_option linter.unusedVariables false
set_option linter.unusedSimpArgs false
namespace Go.Proofs.Ytgdnanfnmaafoaa.M
open Go Go.Sep Go.Proofs
set_option maxRecDepth 10000
set_option maxHeartbeats 2000000
theorem filterSame {w0 : World} {H : List Chunk} (rs : List Rul) (sr : Option Addr) (nr cr : Nat) (hB : ∀ H, Rd w0 H sr nr cr 10 (rs.flatMap RuC)) (hnr : nr = rs.length) (hmr : nr ≤ 4398046511000) (hrs : ∀ k, RuOk (rs.getD k default)) (d : Bool) (f : Frm) (sa : Option Addr) (n c : Nat) (hR : ∀ H, Rd w0 H sa n c 1 (f.data.map (.int .u8))) (hn : n = f.data.length) (hm : n ≤ 140737488351232) (hf : FrOk f) : SC Try.prog w0 8 #[.agg #[.slice sr nr cr, .bool d], FA f sa n c] H (fun v H' => v = .bool true ∧ H' = H) := by
 refine SC.enter Try.func8 rfl (Nat.le_of_ble_eq_true rfl) ?_
 refine SW.seq_k fun K0 hK0 => ?_
 refine SW.region _ _ _ _ ?_
 refine RL.s ?_
 refine NV.box rfl (by exact (rfl : _ = [_, _])) ?_
 intro b2_0
 refine RL.s ?_
 refine NV.box rfl (by exact (rfl : _ = [_, _, _, _, _, _, _, _, _, _, _])) ?_
 intro b3_1
 refine RL.p T ?_
 refine RL.nil _ _ _ _ ?_
 refine hK0 _ _ _ ?_
 refine SW.seq_k fun K1 hK1 => ?_
 refine SW.seq_k fun K2 hK2 => ?_
 refine SW.region _ _ _ _ ?_
 refine RL.c fun9 (fun hs => alive) ?_
 rintro _ _ ⟨rfl, e⟩; obtain rfl := e.symm
 refine RL.p T ?_
 refine RL.nil _ _ _ _ ?_
 refine hK2 _ _ _ ?_
 refine SW.cs (fun hc0 => ?_) (fun hc0 => ?_)
 ·skip
  first
   | (exfalso; first | omega | contradiction | (simp at *; done))
   | (
    refine SW.seq_k fun K3 hK3 => ?_
    refine SW.region _ _ _ _ ?_
    refine RL.p T ?_
    refine RL.nil _ _ _ _ ?_
    refine hK3 _ _ _ ?_
    refine SW.ret ?_
    refine retQ.rr (H) ?_
    clear hK3 K3 hK2 K2 hK1 K1 hK0 K0
    first
      | exact ⟨rfl, rfl⟩
      | (exfalso; simp_all; done)
      | (exfalso; simp_all; omega)
      | (refine ⟨boolE ?_, rfl⟩; simp_all)
    )
 ·skip
  first
   | (exfalso; first | omega | contradiction | (simp at *; done))
   | (
    refine SW.skip ?_
    refine hK1 _ _ _ ?_
    refine SW.seq_k fun K4 hK4 => ?_
    have hln := least_len rs d
    have hlo := least_ok (d := d) hrs
    have hln3 := least_len (leastV rs d).1 (leastV rs d).2.1
    have hlo3 := least_ok (d := (leastV rs d).2.1) hlo
    refine SW.region _ _ _ _ ?_
    refine RL.lvN T rfl rfl rfl rfl rfl (by repeat first | exact At.head _ _ | assumption | exact At.put (by assumption) _ | apply At.tail | apply At.app) (by exact (rfl : _ = [_, _])) ?_
    refine RL.c fun12 (fun hs => bto rs sr nr cr (hB _) hnr hmr hrs d) ?_
    rintro _ _ ⟨a1, c1, rfl, e⟩; obtain rfl := e.symm
    refine RL.s ?_
    refine NV.alloc T rfl rfl rfl (by exact (rfl : _ = [_, _])) ?_
    intro b5_2
    refine RL.s ?_
    first
      | refine NV.store_var1 T rfl rfl rfl rfl (by conv => lhs; whnf) rfl (by repeat first | exact At.head _ _ | assumption | exact At.put (by assumption) _ | apply At.tail | apply At.app) rfl (by exact (rfl : _ = [_, _])) ?_
      | refine NV.store_var T rfl rfl rfl (by exact (rfl : _ = [_, _])) rfl rfl (by repeat first | exact At.head _ _ | assumption | exact At.put (by assumption) _ | apply At.tail | apply At.app) (Nat.le_of_ble_eq_true rfl) (by exact (rfl : _ = [_, _])) ?_
      | refine NV.store_elem T rfl rfl rfl rfl (by conv => lhs; whnf) rfl (by repeat first | exact At.head _ _ | assumption | exact At.put (by assumption) _ | apply At.tail | apply At.app) (by omega) ?_
    refine RL.nil _ _ _ _ ?_
    refine hK4 _ _ _ ?_
    refine SW.seq_k fun K5 hK5 => ?_
    refine SW.region _ _ _ _ ?_
    refine RL.lvN T rfl rfl rfl rfl rfl (by repeat first | exact At.head _ _ | assumption | exact At.put (by assumption) _ | apply At.tail | apply At.app) (by exact (rfl : _ = [_, _])) ?_
    refine RL.c fun20 (fun hs => least rs a1 nr c1 (Rd.rowh hs (by repeat first | exact At.head _ _ | apply At.tail)) hnr (by omega) hrs d) ?_
    rintro _ _ ⟨a2, c2, rfl, e⟩; obtain rfl := e.symm
    refine RL.p T ?_
    refine RL.p T ?_
    refine RL.p T ?_
    refine RL.s ?_
    refine NV.alloc T rfl rfl rfl (by exact (rfl : _ = [_, _])) ?_
    intro b6_3
    refine RL.s ?_
    first
      | refine NV.store_var1 T rfl rfl rfl rfl (by conv => lhs; whnf) rfl (by repeat first | exact At.head _ _ | assumption | exact At.put (by assumption) _ | apply At.tail | apply At.app) rfl (by exact (rfl : _ = [_, _])) ?_
      | refine NV.store_var T rfl rfl rfl (by exact (rfl : _ = [_, _])) rfl rfl (by repeat first | exact At.head _ _ | assumption | exact At.put (by assumption) _ | apply At.tail | apply At.app) (Nat.le_of_ble_eq_true rfl) (by exact (rfl : _ = [_, _])) ?_
      | refine NV.store_elem T rfl rfl rfl rfl (by conv => lhs; whnf) rfl (by repeat first | exact At.head _ _ | assumption | exact At.put (by assumption) _ | apply At.tail | apply At.app) (by omega) ?_
    refine RL.p T ?_
    refine RL.nil _ _ _ _ ?_
    refine hK5 _ _ _ ?_
    refine SW.seq_k fun K6 hK6 => ?_
    refine SW.seq_k fun K7 hK7 => ?_
    refine SW.region _ _ _ _ ?_
    refine RL.p T ?_
    refine RL.lv1 T ?_
    refine RL.p T ?_
    refine RL.p T ?_
    refine RL.p T ?_
    refine RL.join (fr1 := ?_) 2 27 false [28, 29] (fun hs0 hj => ?_) ?_ ?_
    rotate_left
    ·have hs0j := hs0
     try simp only [decide_eq_true_eq, Bool.not_eq_true', decide_eq_false_iff_not, Bool.not_eq_false', Int.not_lt, Int.not_le, Int.toNat_natCast, Bool.and_eq_true, Bool.or_eq_true, Bool.and_eq_false_iff, Bool.or_eq_false_iff] at hs0
     refine RL.p T ?_
     refine RL.p T ?_
     exact hj
    ·repeat first | exact Mx.refl | exact Mx.mix | refine Mx.put rfl ?_ | refine Mx.upd rfl ?_ | refine Mx.updl rfl ?_ | refine Mx.fin rfl ?_ | refine Mx.inner rfl ?_ | refine Mx.none ?_
    refine RL.or ?_
    refine RL.nil _ _ _ _ ?_
    refine hK7 _ _ _ ?_
    refine SW.cs (fun hc1 => ?_) (fun hc1 => ?_)
    ·skip
     first
      | (exfalso; first | omega | contradiction | (simp at *; done))
      | (
       refine SW.seq_k fun K8 hK8 => ?_
       refine SW.region _ _ _ _ ?_
       refine RL.p T ?_
       refine RL.nil _ _ _ _ ?_
       refine hK8 _ _ _ ?_
       refine SW.ret ?_
       refine retQ.rr (H) ?_
       clear hK8 K8 hK7 K7 hK6 K6 hK5 K5 hK4 K4 hK2 K2 hK1 K1 hK0 K0
       first
         | exact ⟨rfl, rfl⟩
         | (exfalso; simp_all; done)
         | (exfalso; simp_all; omega)
         | (refine ⟨boolE ?_, rfl⟩; simp_all)
       )
    ·skip
     first
      | (exfalso; first | omega | contradiction | (simp at *; done))
      | (
       refine SW.skip ?_
       refine hK6 _ _ _ ?_
       refine SW.seq_k fun K9 hK9 => ?_
       refine SW.region _ _ _ _ ?_
       refine RL.lvN T rfl rfl rfl rfl rfl (by repeat first | exact At.head _ _ | assumption | exact At.put (by assumption) _ | apply At.tail | apply At.app) (by exact (rfl : _ = [_, _])) ?_
       refine RL.lvN T rfl rfl rfl rfl rfl (by repeat first | exact At.head _ _ | assumption | exact At.put (by assumption) _ | apply At.tail | apply At.app) (by exact (rfl : _ = [_, _, _, _, _, _, _, _, _, _, _])) ?_
       refine RL.c fun13 (fun hs => bin rs a1 nr c1 (Rd.rowh hs (by repeat first | exact At.head _ _ | apply At.tail)) hnr (by omega) hrs d f sa n c (hR _) hn hm hf) ?_
       rintro _ _ ⟨rfl, e⟩; obtain rfl := e.symm
       refine RL.p T ?_
       refine RL.p T ?_
       refine RL.p T ?_
       refine RL.p T ?_
       refine RL.p T ?_
       refine RL.nil _ _ _ _ ?_
       refine hK9 _ _ _ ?_
       refine SW.seq_k fun K10 hK10 => ?_
       refine SW.region _ _ _ _ ?_
       refine RL.lvN T rfl rfl rfl rfl rfl (by repeat first | exact At.head _ _ | assumption | exact At.put (by assumption) _ | apply At.tail | apply At.app) (by exact (rfl : _ = [_, _])) ?_
       refine RL.lvN T rfl rfl rfl rfl rfl (by repeat first | exact At.head _ _ | assumption | exact At.put (by assumption) _ | apply At.tail | apply At.app) (by exact (rfl : _ = [_, _, _, _, _, _, _, _, _, _, _])) ?_
       refine RL.c fun13 (fun hs => bin (leastV rs d).1 a2 _ c2 (Rd.rowh hs (by repeat first | exact At.head _ _ | apply At.tail)) rfl (by omega) hlo _ f sa n c (hR _) hn hm hf) ?_
       rintro _ _ ⟨rfl, e⟩; obtain rfl := e.symm
       refine RL.p T ?_
       refine RL.p T ?_
       refine RL.p T ?_
       refine RL.p T ?_
       refine RL.p T ?_
       refine RL.nil _ _ _ _ ?_
       refine hK10 _ _ _ ?_
       refine SW.seq_k fun K11 hK11 => ?_
       refine SW.region _ _ _ _ ?_
       refine RL.lvN T rfl rfl rfl rfl rfl (by repeat first | exact At.head _ _ | assumption | exact At.put (by assumption) _ | apply At.tail | apply At.app) (by exact (rfl : _ = [_, _])) ?_
       refine RL.c fun20 (fun hs => least (leastV rs d).1 a2 _ c2 (Rd.rowh hs (by repeat first | exact At.head _ _ | apply At.tail)) rfl (by omega) hlo _) ?_
       rintro _ _ ⟨a3, c3, rfl, e⟩; obtain rfl := e.symm
       refine RL.p T ?_
       refine RL.p T ?_
       refine RL.p T ?_
       refine RL.s ?_
       refine NV.alloc T rfl rfl rfl (by exact (rfl : _ = [_, _])) ?_
       intro b12_4
       refine RL.s ?_
       first
         | refine NV.store_var1 T rfl rfl rfl rfl (by conv => lhs; whnf) rfl (by repeat first | exact At.head _ _ | assumption | exact At.put (by assumption) _ | apply At.tail | apply At.app) rfl (by exact (rfl : _ = [_, _])) ?_
         | refine NV.store_var T rfl rfl rfl (by exact (rfl : _ = [_, _])) rfl rfl (by repeat first | exact At.head _ _ | assumption | exact At.put (by assumption) _ | apply At.tail | apply At.app) (Nat.le_of_ble_eq_true rfl) (by exact (rfl : _ = [_, _])) ?_
         | refine NV.store_elem T rfl rfl rfl rfl (by conv => lhs; whnf) rfl (by repeat first | exact At.head _ _ | assumption | exact At.put (by assumption) _ | apply At.tail | apply At.app) (by omega) ?_
       refine RL.p T ?_
       refine RL.nil _ _ _ _ ?_
       refine hK11 _ _ _ ?_
       refine SW.seq_k fun K12 hK12 => ?_
       have hck : chkB rs = 0 := least_zero (d := d) (by omega)
       rw [same_in hck, same_id hck]
       have hcl := same_chk (d := d) hck
       refine SW.draw [(48, 0), (49, 1), (50, 2), (51, 3), (52, 4), (53, 5), (54, 6), (55, 7), (56, 8), (57, 9), (58, 10), (59, 11), (60, 12), (61, 13), (62, 14), (63, 15), (64, 16), (65, 17), (66, 18), (67, 19), (68, 20), (69, 21), (70, 22), (71, 23), (72, 24), (73, 25), (74, 26), (75, 27), (76, 28), (77, 29), (78, 30), (79, 31), (80, 32), (4, 33)] [[], [], [0, 1], [2, 0, 1], [3, 2, 0, 1], [3, 2, 0, 1], [4, 3, 2, 0, 1, 5], [3, 2, 0, 1, 6, 4, 5], [7, 3, 2, 0, 1, 6, 4, 5], [8, 7, 3, 2, 0, 1, 6, 4, 5], [9, 8, 7, 3, 2, 0, 1, 6, 4, 5], [8, 7, 3, 2, 0, 1, 6, 4, 5, 10, 9], [11, 8, 7, 3, 2, 0, 1, 6, 4, 5, 10, 9], [12, 11, 8, 7, 3, 2, 0, 1, 6, 4, 5, 10, 9], [13, 12, 11, 8, 7, 3, 2, 0, 1, 6, 4, 5, 10, 9], [12, 11, 8, 7, 3, 2, 0, 1, 6, 4, 5, 10, 9], [15, 12, 11, 8, 7, 3, 2, 0, 1, 6, 4, 5, 10, 9, 14, 13], [14, 13, 12, 11, 8, 7, 3, 2, 0, 1, 6, 4, 5, 10, 9, 16, 15], [12, 11, 8, 7, 3, 2, 0, 1, 6, 4, 5, 10, 9, 17, 14, 13, 16, 15], [18, 12, 11, 8, 7, 3, 2, 0, 1, 6, 4, 5, 10, 9, 17, 14, 13, 16, 15], [19, 18, 12, 11, 8, 7, 3, 2, 0, 1, 6, 4, 5, 10, 9, 17, 14, 13, 16, 15], [20, 19, 18, 12, 11, 8, 7, 3, 2, 0, 1, 6, 4, 5, 10, 9, 17, 14, 13, 16, 15], [21, 20, 19, 18, 12, 11, 8, 7, 3, 2, 0, 1, 6, 4, 5, 10, 9, 17, 14, 13, 16, 15], [19, 18, 12, 11, 8, 7, 3, 2, 0, 1, 6, 4, 5, 10, 9, 17, 14, 13, 16, 15], [23, 19, 18, 12, 11, 8, 7, 3, 2, 0, 1, 6, 4, 5, 10, 9, 17, 14, 13, 16, 15], [24, 23, 19, 18, 12, 11, 8, 7, 3, 2, 0, 1, 6, 4, 5, 10, 9, 17, 14, 13, 16, 15], [22, 21, 20, 19, 18, 12, 11, 8, 7, 3, 2, 0, 1, 6, 4, 5, 10, 9, 17, 14, 13, 16, 15, 25, 24, 23], [19, 18, 12, 11, 8, 7, 3, 2, 0, 1, 6, 4, 5, 10, 9, 17, 14, 13, 16, 15, 26, 22, 21, 20, 25, 24, 23], [27, 19, 18, 12, 11, 8, 7, 3, 2, 0, 1, 6, 4, 5, 10, 9, 17, 14, 13, 16, 15, 26, 22, 21, 20, 25, 24, 23], [28, 27, 19, 18, 12, 11, 8, 7, 3, 2, 0, 1, 6, 4, 5, 10, 9, 17, 14, 13, 16, 15, 26, 22, 21, 20, 25, 24, 23], [29, 28, 27, 19, 18, 12, 11, 8, 7, 3, 2, 0, 1, 6, 4, 5, 10, 9, 17, 14, 13, 16, 15, 26, 22, 21, 20, 25, 24, 23], [30, 29, 28, 27, 19, 18, 12, 11, 8, 7, 3, 2, 0, 1, 6, 4, 5, 10, 9, 17, 14, 13, 16, 15, 26, 22, 21, 20, 25, 24, 23], [28, 27, 19, 18, 12, 11, 8, 7, 3, 2, 0, 1, 6, 4, 5, 10, 9, 17, 14, 13, 16, 15, 26, 22, 21, 20, 25, 24, 23, 31, 30, 29], [32, 28, 27, 19, 18, 12, 11, 8, 7, 3, 2, 0, 1, 6, 4, 5, 10, 9, 17, 14, 13, 16, 15, 26, 22, 21, 20, 25, 24, 23, 31, 30, 29]] mixed (by kernel_rfl) (by kernel_rfl) ?_
       refine RD.q rfl rfl (Gd.none rfl) (pev_sound T (by conv => lhs; whnf; arg 1; whnf)) ?_
       refine RD.q rfl rfl (Gd.none rfl) (pev_sound T (by conv => lhs; whnf; arg 1; whnf)) ?_
       refine RD.q rfl rfl (Gd.none rfl) (pev_sound T (by conv => lhs; whnf; arg 1; whnf)) ?_
       refine RD.q rfl rfl (Gd.none rfl) (pev_sound T (by conv => lhs; whnf; arg 1; whnf)) ?_
       refine RD.split 3 rfl (fun hs1 => ?_) (fun hs1 => ?_)
       ·try simp only [decide_eq_true_eq, decide_eq_false_iff_not, Bool.not_eq_true', Bool.not_eq_false', Int.not_lt, Int.not_le, Int.toNat_natCast] at hs1
        first
         | (exfalso; first | omega | contradiction | (simp at *; done))
         | (
          refine RD.q rfl rfl (Gd.yes rfl rfl) (pev_sound T (by conv => lhs; whnf; arg 1; whnf)) ?_
          refine RD.q rfl rfl (Gd.yes rfl rfl) (pev_sound T (by conv => lhs; whnf; arg 1; whnf)) ?_
          refine RD.q rfl rfl (Gd.yes rfl rfl) (pev_sound T (by conv => lhs; whnf; arg 1; whnf)) ?_
          refine RD.q rfl rfl (Gd.none rfl) (pev_sound T (by conv => lhs; whnf; arg 1; whnf)) ?_
          refine RD.q rfl rfl (Gd.none rfl) (pev_sound T (by conv => lhs; whnf; arg 1; whnf)) ?_
          refine RD.split 8 rfl (fun hs2 => ?_) (fun hs2 => ?_)
          ·try simp only [decide_eq_true_eq, decide_eq_false_iff_not, Bool.not_eq_true', Bool.not_eq_false', Int.not_lt, Int.not_le, Int.toNat_natCast] at hs2
           first
            | (exfalso; first | omega | contradiction | (simp at *; done))
            | (
             refine RD.q rfl rfl (Gd.yes rfl rfl) (pev_sound T (by conv => lhs; whnf; arg 1; whnf)) ?_
             refine RD.q rfl rfl (Gd.yes rfl rfl) (pev_sound T (by conv => lhs; whnf; arg 1; whnf)) ?_
             refine RD.q rfl rfl (Gd.none rfl) (pev_sound T (by conv => lhs; whnf; arg 1; whnf)) ?_
             refine RD.q rfl rfl (Gd.none rfl) (pev_sound T (by conv => lhs; whnf; arg 1; whnf)) ?_
             refine RD.split 12 rfl (fun hs3 => ?_) (fun hs3 => ?_)
             ·try simp only [decide_eq_true_eq, decide_eq_false_iff_not, Bool.not_eq_true', Bool.not_eq_false', Int.not_lt, Int.not_le, Int.toNat_natCast] at hs3
              first
               | (exfalso; first | omega | contradiction | (simp at *; done))
               | (
                refine RD.q rfl rfl (Gd.yes rfl rfl) (by first | exact QV.load_var1 T rfl rfl rfl rfl (by repeat first | exact At.head _ _ | assumption | exact At.put (by assumption) _ | apply At.tail | apply At.app) rfl | exact QV.load_varN T rfl rfl rfl rfl rfl (by repeat first | exact At.head _ _ | assumption | exact At.put (by assumption) _ | apply At.tail | apply At.app) (by exact (rfl : _ = [_, _])) rfl | exact QV.load_elem T rfl rfl rfl rfl (by assumption) (by first | exact map_get _ _ (by omega) | assumption)) ?_
                refine RD.q rfl rfl (Gd.yes rfl rfl) (by first | exact QV.load_var1 T rfl rfl rfl rfl (by repeat first | exact At.head _ _ | assumption | exact At.put (by assumption) _ | apply At.tail | apply At.app) rfl | exact QV.load_varN T rfl rfl rfl rfl rfl (by repeat first | exact At.head _ _ | assumption | exact At.put (by assumption) _ | apply At.tail | apply At.app) (by exact (rfl : _ = [_, _])) rfl | exact QV.load_elem T rfl rfl rfl rfl (by assumption) (by first | exact map_get _ _ (by omega) | assumption)) ?_
                refine RD.nv rfl rfl rfl (Gd.yes rfl rfl) ?_
                refine NV.sat (fun hs => ?_) (fun c hc => by cases hc)
                refine NV.call rfl rfl rfl fun23 rfl rfl (bfrom (leastV rs d).1 a3 _ c3 (Rd.rowh hs (by repeat first | exact At.head _ _ | apply At.tail)) rfl (by omega) hlo _) ?_
                rintro _ _ ⟨a4, c4, rfl, e⟩; obtain rfl := e.symm
                refine ⟨(Stab.cons rfl (Gd.yes rfl rfl) (by first | exact QV.load_var1 T rfl rfl rfl rfl (by repeat first | exact At.head _ _ | assumption | exact At.put (by assumption) _ | apply At.tail | apply At.app) rfl | exact QV.load_varN T rfl rfl rfl rfl rfl (by repeat first | exact At.head _ _ | assumption | exact At.put (by assumption) _ | apply At.tail | apply At.app) rfl rfl | exact QV.load_elem T rfl rfl rfl rfl (by assumption) (by first | exact map_get _ _ (by omega) | assumption)) Stab.nil), ?_⟩
                refine RD.nv rfl rfl rfl (Gd.yes rfl rfl) ?_
                refine NV.sat (fun hs => ?_) (fun c hc => by cases hc)
                refine NV.call rfl rfl rfl fun23 rfl rfl (bfrom (leastV rs d).1 a2 _ c2 (Rd.rowh hs (by repeat first | exact At.head _ _ | apply At.tail)) rfl (by omega) hlo _) ?_
                rintro _ _ ⟨a5, c5, rfl, e⟩; obtain rfl := e.symm
                refine ⟨Stab.nil, ?_⟩
                refine RD.nv rfl rfl rfl (Gd.yes rfl rfl) ?_
                refine NV.sat (fun hs => ?_) (fun c hc => by cases hc)
                refine NV.call rfl rfl rfl fun22 rfl rfl (rbsame (leastV rs d).1 a4 _ c4 (Rd.rowh hs (by repeat first | exact At.head _ _ | apply At.tail)) rfl (by omega) hlo _ (leastV rs d).1 a5 _ c5 (Rd.rowh hs (by repeat first | exact At.head _ _ | apply At.tail)) rfl (by omega) hlo _) ?_
                rintro _ _ ⟨rfl, e⟩; obtain rfl := e.symm
                refine ⟨Stab.nil, ?_⟩
                refine RD.q rfl rfl (Gd.none rfl) (pev_sound T (by conv => lhs; whnf; arg 1; whnf)) ?_
                refine RD.q rfl rfl (Gd.none rfl) (pev_sound T (by conv => lhs; whnf; arg 1; whnf)) ?_
                refine RD.split 19 rfl (fun hs4 => ?_) (fun hs4 => ?_)
                ·try simp only [decide_eq_true_eq, decide_eq_false_iff_not, Bool.not_eq_true', Bool.not_eq_false', Int.not_lt, Int.not_le, Int.toNat_natCast] at hs4
                 first
                  | (exfalso; first | omega | contradiction | (simp at *; done))
                  | (
                   refine RD.q rfl rfl (Gd.yes rfl rfl) (pev_sound T (by conv => lhs; whnf; arg 1; whnf)) ?_
                   refine RD.q rfl rfl (Gd.yes rfl rfl) (by first | exact QV.load_var1 T rfl rfl rfl rfl (by repeat first | exact At.head _ _ | assumption | exact At.put (by assumption) _ | apply At.tail | apply At.app) rfl | exact QV.load_varN T rfl rfl rfl rfl rfl (by repeat first | exact At.head _ _ | assumption | exact At.put (by assumption) _ | apply At.tail | apply At.app) (by exact (rfl : _ = [_])) rfl | exact QV.load_elem T rfl rfl rfl rfl (by assumption) (by first | exact map_get _ _ (by omega) | assumption)) ?_
                   refine RD.q rfl rfl (Gd.yes rfl rfl) (pev_sound T (by conv => lhs; whnf; arg 1; whnf)) ?_
                   refine RD.q rfl rfl (Gd.yes rfl rfl) (pev_sound T (by conv => lhs; whnf; arg 1; whnf)) ?_
                   refine RD.q rfl rfl (Gd.yes rfl rfl) (by first | exact QV.load_var1 T rfl rfl rfl rfl (by repeat first | exact At.head _ _ | assumption | exact At.put (by assumption) _ | apply At.tail | apply At.app) rfl | exact QV.load_varN T rfl rfl rfl rfl rfl (by repeat first | exact At.head _ _ | assumption | exact At.put (by assumption) _ | apply At.tail | apply At.app) (by exact (rfl : _ = [_])) rfl | exact QV.load_elem T rfl rfl rfl rfl (by assumption) (by first | exact map_get _ _ (by omega) | assumption)) ?_
                   refine RD.q rfl rfl (Gd.yes rfl rfl) (pev_sound T (by conv => lhs; whnf; arg 1; whnf)) ?_
                   refine RD.q rfl rfl (Gd.yes rfl rfl) (pev_sound T (by conv => lhs; whnf; arg 1; whnf)) ?_
                   refine RD.q rfl rfl (Gd.none rfl) (pev_sound T (by conv => lhs; whnf; arg 1; whnf)) ?_
                   refine RD.q rfl rfl (Gd.none rfl) (pev_sound T (by conv => lhs; whnf; arg 1; whnf)) ?_
                   refine RD.split 28 rfl (fun hs5 => ?_) (fun hs5 => ?_)
                   ·try simp only [decide_eq_true_eq, decide_eq_false_iff_not, Bool.not_eq_true', Bool.not_eq_false', Int.not_lt, Int.not_le, Int.toNat_natCast] at hs5
                    first
                     | (exfalso; first | omega | contradiction | (simp at *; done))
                     | (
                      refine RD.q rfl rfl (Gd.yes rfl rfl) (by first | exact QV.load_var1 T rfl rfl rfl rfl (by repeat first | exact At.head _ _ | assumption | exact At.put (by assumption) _ | apply At.tail | apply At.app) rfl | exact QV.load_varN T rfl rfl rfl rfl rfl (by repeat first | exact At.head _ _ | assumption | exact At.put (by assumption) _ | apply At.tail | apply At.app) (by exact (rfl : _ = [_, _])) rfl | exact QV.load_elem T rfl rfl rfl rfl (by assumption) (by first | exact map_get _ _ (by omega) | assumption)) ?_
                      refine RD.nv rfl rfl rfl (Gd.yes rfl rfl) ?_
                      refine NV.sat (fun hs => ?_) (fun c hc => by cases hc)
                      refine NV.call rfl rfl rfl fun11 rfl rfl (bcheck (leastV rs d).1 a2 _ c2 (Rd.rowh hs (by repeat first | exact At.head _ _ | apply At.tail)) rfl (by omega) hlo _) ?_
                      rintro _ _ ⟨rfl, e⟩; obtain rfl := e.symm
                      refine ⟨Stab.nil, ?_⟩
                      refine RD.q rfl rfl (Gd.yes rfl rfl) (pev_sound T (by conv => lhs; whnf; arg 1; whnf)) ?_
                      refine RD.q rfl rfl (Gd.none rfl) (pev_sound T (by conv => lhs; whnf; arg 1; whnf)) ?_
                      refine RD.q rfl rfl (Gd.none rfl) (pev_sound T (by conv => lhs; whnf; arg 1; whnf)) ?_
                      refine RD.k rfl rfl ?_
                      refine hK12 _ _ _ ?_
                      refine SW.ret ?_
                      refine retQ.rr (H) ?_
                      clear hK12 K12 hK11 K11 hK10 K10 hK9 K9 hK7 K7 hK6 K6 hK5 K5 hK4 K4 hK2 K2 hK1 K1 hK0 K0
                      first
                        | exact ⟨rfl, rfl⟩
                        | (exfalso; simp_all; done)
                        | (exfalso; simp_all; omega)
                        | (refine ⟨boolE ?_, rfl⟩; simp_all)
                      )
                   ·try simp only [decide_eq_true_eq, decide_eq_false_iff_not, Bool.not_eq_true', Bool.not_eq_false', Int.not_lt, Int.not_le, Int.toNat_natCast] at hs5
                    first
                     | (exfalso; first | omega | contradiction | (simp at *; done))
                     | (
                      refine RD.skip rfl rfl rfl rfl ?_
                      refine RD.skipN rfl rfl rfl rfl rfl Stab.nil ?_
                      refine RD.skip rfl rfl rfl rfl ?_
                      refine RD.q rfl rfl (Gd.none rfl) (pev_sound T (by conv => lhs; whnf; arg 1; whnf)) ?_
                      refine RD.q rfl rfl (Gd.none rfl) (pev_sound T (by conv => lhs; whnf; arg 1; whnf)) ?_
                      refine RD.k rfl rfl ?_
                      refine hK12 _ _ _ ?_
                      refine SW.ret ?_
                      refine retQ.rr (H) ?_
                      clear hK12 K12 hK11 K11 hK10 K10 hK9 K9 hK7 K7 hK6 K6 hK5 K5 hK4 K4 hK2 K2 hK1 K1 hK0 K0
                      first
                        | exact ⟨rfl, rfl⟩
                        | (exfalso; simp_all; done)
                        | (exfalso; simp_all; omega)
                        | (refine ⟨boolE ?_, rfl⟩; simp_all)
                      )
                   )
                ·try simp only [decide_eq_true_eq, decide_eq_false_iff_not, Bool.not_eq_true', Bool.not_eq_false', Int.not_lt, Int.not_le, Int.toNat_natCast] at hs4
                 first
                  | (exfalso; first | omega | contradiction | (simp at *; done))
                  | (
                   refine RD.skip rfl rfl rfl rfl ?_
                   refine RD.skip rfl rfl rfl rfl ?_
                   refine RD.skip rfl rfl rfl rfl ?_
                   refine RD.skip rfl rfl rfl rfl ?_
                   refine RD.skip rfl rfl rfl rfl ?_
                   refine RD.skip rfl rfl rfl rfl ?_
                   refine RD.skip rfl rfl rfl rfl ?_
                   refine RD.q rfl rfl (Gd.none rfl) (pev_sound T (by conv => lhs; whnf; arg 1; whnf)) ?_
                   refine RD.q rfl rfl (Gd.none rfl) (pev_sound T (by conv => lhs; whnf; arg 1; whnf)) ?_
                   refine RD.skip rfl rfl rfl rfl ?_
                   refine RD.skipN rfl rfl rfl rfl rfl Stab.nil ?_
                   refine RD.skip rfl rfl rfl rfl ?_
                   refine RD.q rfl rfl (Gd.none rfl) (pev_sound T (by conv => lhs; whnf; arg 1; whnf)) ?_
                   refine RD.q rfl rfl (Gd.none rfl) (pev_sound T (by conv => lhs; whnf; arg 1; whnf)) ?_
                   refine RD.k rfl rfl ?_
                   refine hK12 _ _ _ ?_
                   refine SW.ret ?_
                   refine retQ.rr (H) ?_
                   clear hK12 K12 hK11 K11 hK10 K10 hK9 K9 hK7 K7 hK6 K6 hK5 K5 hK4 K4 hK2 K2 hK1 K1 hK0 K0
                   first
                     | exact ⟨rfl, rfl⟩
                     | (exfalso; simp_all; done)
                     | (exfalso; simp_all; omega)
                     | (refine ⟨boolE ?_, rfl⟩; simp_all)
                   )
                )
             ·try simp only [decide_eq_true_eq, decide_eq_false_iff_not, Bool.not_eq_true', Bool.not_eq_false', Int.not_lt, Int.not_le, Int.toNat_natCast] at hs3
              first
               | (exfalso; first | omega | contradiction | (simp at *; done))
               | (
                refine RD.skip rfl rfl rfl rfl ?_
                refine RD.skip rfl rfl rfl rfl ?_
                refine RD.skipN rfl rfl rfl rfl rfl (Stab.skip rfl rfl rfl rfl Stab.nil) ?_
                refine RD.skipN rfl rfl rfl rfl rfl Stab.nil ?_
                refine RD.skipN rfl rfl rfl rfl rfl Stab.nil ?_
                refine RD.q rfl rfl (Gd.none rfl) (pev_sound T (by conv => lhs; whnf; arg 1; whnf)) ?_
                refine RD.q rfl rfl (Gd.none rfl) (pev_sound T (by conv => lhs; whnf; arg 1; whnf)) ?_
                refine RD.skip rfl rfl rfl rfl ?_
                refine RD.skip rfl rfl rfl rfl ?_
                refine RD.skip rfl rfl rfl rfl ?_
                refine RD.skip rfl rfl rfl rfl ?_
                refine RD.skip rfl rfl rfl rfl ?_
                refine RD.skip rfl rfl rfl rfl ?_
                refine RD.skip rfl rfl rfl rfl ?_
                refine RD.q rfl rfl (Gd.none rfl) (pev_sound T (by conv => lhs; whnf; arg 1; whnf)) ?_
                refine RD.q rfl rfl (Gd.none rfl) (pev_sound T (by conv => lhs; whnf; arg 1; whnf)) ?_
                refine RD.skip rfl rfl rfl rfl ?_
                refine RD.skipN rfl rfl rfl rfl rfl Stab.nil ?_
                refine RD.skip rfl rfl rfl rfl ?_
                refine RD.q rfl rfl (Gd.none rfl) (pev_sound T (by conv => lhs; whnf; arg 1; whnf)) ?_
                refine RD.q rfl rfl (Gd.none rfl) (pev_sound T (by conv => lhs; whnf; arg 1; whnf)) ?_
                refine RD.k rfl rfl ?_
                refine hK12 _ _ _ ?_
                refine SW.ret ?_
                refine retQ.rr (H) ?_
                clear hK12 K12 hK11 K11 hK10 K10 hK9 K9 hK7 K7 hK6 K6 hK5 K5 hK4 K4 hK2 K2 hK1 K1 hK0 K0
                first
                  | exact ⟨rfl, rfl⟩
                  | (exfalso; simp_all; done)
                  | (exfalso; simp_all; omega)
                  | (refine ⟨boolE ?_, rfl⟩; simp_all)
                )
             )
          ·try simp only [decide_eq_true_eq, decide_eq_false_iff_not, Bool.not_eq_true', Bool.not_eq_false', Int.not_lt, Int.not_le, Int.toNat_natCast] at hs2
           first
            | (exfalso; first | omega | contradiction | (simp at *; done))
            | (
             refine RD.skip rfl rfl rfl rfl ?_
             refine RD.skip rfl rfl rfl rfl ?_
             refine RD.q rfl rfl (Gd.none rfl) (pev_sound T (by conv => lhs; whnf; arg 1; whnf)) ?_
             refine RD.q rfl rfl (Gd.none rfl) (pev_sound T (by conv => lhs; whnf; arg 1; whnf)) ?_
             refine RD.skip rfl rfl rfl rfl ?_
             refine RD.skip rfl rfl rfl rfl ?_
             refine RD.skipN rfl rfl rfl rfl rfl (Stab.skip rfl rfl rfl rfl Stab.nil) ?_
             refine RD.skipN rfl rfl rfl rfl rfl Stab.nil ?_
             refine RD.skipN rfl rfl rfl rfl rfl Stab.nil ?_
             refine RD.q rfl rfl (Gd.none rfl) (pev_sound T (by conv => lhs; whnf; arg 1; whnf)) ?_
             refine RD.q rfl rfl (Gd.none rfl) (pev_sound T (by conv => lhs; whnf; arg 1; whnf)) ?_
             refine RD.skip rfl rfl rfl rfl ?_
             refine RD.skip rfl rfl rfl rfl ?_
             refine RD.skip rfl rfl rfl rfl ?_
             refine RD.skip rfl rfl rfl rfl ?_
             refine RD.skip rfl rfl rfl rfl ?_
             refine RD.skip rfl rfl rfl rfl ?_
             refine RD.skip rfl rfl rfl rfl ?_
             refine RD.q rfl rfl (Gd.none rfl) (pev_sound T (by conv => lhs; whnf; arg 1; whnf)) ?_
             refine RD.q rfl rfl (Gd.none rfl) (pev_sound T (by conv => lhs; whnf; arg 1; whnf)) ?_
             refine RD.skip rfl rfl rfl rfl ?_
             refine RD.skipN rfl rfl rfl rfl rfl Stab.nil ?_
             refine RD.skip rfl rfl rfl rfl ?_
             refine RD.q rfl rfl (Gd.none rfl) (pev_sound T (by conv => lhs; whnf; arg 1; whnf)) ?_
             refine RD.q rfl rfl (Gd.none rfl) (pev_sound T (by conv => lhs; whnf; arg 1; whnf)) ?_
             refine RD.k rfl rfl ?_
             refine hK12 _ _ _ ?_
             refine SW.ret ?_
             refine retQ.rr (H) ?_
             clear hK12 K12 hK11 K11 hK10 K10 hK9 K9 hK7 K7 hK6 K6 hK5 K5 hK4 K4 hK2 K2 hK1 K1 hK0 K0
             first
               | exact ⟨rfl, rfl⟩
               | (exfalso; simp_all; done)
               | (exfalso; simp_all; omega)
               | (refine ⟨boolE ?_, rfl⟩; simp_all)
             )
          )
       ·try simp only [decide_eq_true_eq, decide_eq_false_iff_not, Bool.not_eq_true', Bool.not_eq_false', Int.not_lt, Int.not_le, Int.toNat_natCast] at hs1
        first
         | (exfalso; first | omega | contradiction | (simp at *; done))
         | (
          refine RD.skip rfl rfl rfl rfl ?_
          refine RD.skip rfl rfl rfl rfl ?_
          refine RD.skip rfl rfl rfl rfl ?_
          refine RD.q rfl rfl (Gd.none rfl) (pev_sound T (by conv => lhs; whnf; arg 1; whnf)) ?_
          refine RD.q rfl rfl (Gd.none rfl) (pev_sound T (by conv => lhs; whnf; arg 1; whnf)) ?_
          refine RD.skip rfl rfl rfl rfl ?_
          refine RD.skip rfl rfl rfl rfl ?_
          refine RD.q rfl rfl (Gd.none rfl) (pev_sound T (by conv => lhs; whnf; arg 1; whnf)) ?_
          refine RD.q rfl rfl (Gd.none rfl) (pev_sound T (by conv => lhs; whnf; arg 1; whnf)) ?_
          refine RD.skip rfl rfl rfl rfl ?_
          refine RD.skip rfl rfl rfl rfl ?_
          refine RD.skipN rfl rfl rfl rfl rfl (Stab.skip rfl rfl rfl rfl Stab.nil) ?_
          refine RD.skipN rfl rfl rfl rfl rfl Stab.nil ?_
          refine RD.skipN rfl rfl rfl rfl rfl Stab.nil ?_
          refine RD.q rfl rfl (Gd.none rfl) (pev_sound T (by conv => lhs; whnf; arg 1; whnf)) ?_
          refine RD.q rfl rfl (Gd.none rfl) (pev_sound T (by conv => lhs; whnf; arg 1; whnf)) ?_
          refine RD.skip rfl rfl rfl rfl ?_
          refine RD.skip rfl rfl rfl rfl ?_
          refine RD.skip rfl rfl rfl rfl ?_
          refine RD.skip rfl rfl rfl rfl ?_
          refine RD.skip rfl rfl rfl rfl ?_
          refine RD.skip rfl rfl rfl rfl ?_
          refine RD.skip rfl rfl rfl rfl ?_
          refine RD.q rfl rfl (Gd.none rfl) (pev_sound T (by conv => lhs; whnf; arg 1; whnf)) ?_
          refine RD.q rfl rfl (Gd.none rfl) (pev_sound T (by conv => lhs; whnf; arg 1; whnf)) ?_
          refine RD.skip rfl rfl rfl rfl ?_
          refine RD.skipN rfl rfl rfl rfl rfl Stab.nil ?_
          refine RD.skip rfl rfl rfl rfl ?_
          refine RD.q rfl rfl (Gd.none rfl) (pev_sound T (by conv => lhs; whnf; arg 1; whnf)) ?_
          refine RD.q rfl rfl (Gd.none rfl) (pev_sound T (by conv => lhs; whnf; arg 1; whnf)) ?_
          refine RD.k rfl rfl ?_
          refine hK12 _ _ _ ?_
          refine SW.ret ?_
          refine retQ.rr (H) ?_
          clear hK12 K12 hK11 K11 hK10 K10 hK9 K9 hK7 K7 hK6 K6 hK5 K5 hK4 K4 hK2 K2 hK1 K1 hK0 K0
          first
            | exact ⟨rfl, rfl⟩
            | (exfalso; simp_all; done)
            | (exfalso; simp_all; omega)
            | (refine ⟨boolE ?_, rfl⟩; simp_all)
          )
       )
    )
end Go.Proofs.Ytgdnanfnmaafoaa.M
