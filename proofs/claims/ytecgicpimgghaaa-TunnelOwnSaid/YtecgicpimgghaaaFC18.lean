import Derived.Test.YtecgicpimgghaaaProg
import Derived.Test.YtecgicpimgghaaaFB18
set_option linter.unusedVariables false
set_option linter.unusedSimpArgs false
namespace Go.Proofs.Ytecgicpimgghaaa.M
open Go Go.Sep Go.Proofs
set_option maxRecDepth 10000
set_option maxHeartbeats 2000000
theorem get16s {w0 : World} {H : List Chunk} (i j : Nat) (hj : j = i + 1) (sa : Option Addr) (n c : Nat) (es : List Int) (hR : Rd w0 H sa n c 1 (es.map (.int .u8))) (hn : n = es.length) (hi : i + 2 ≤ n) (hB : Byte es) : SC Try.prog w0 30 #[.slice (subA sa i c 1) (n - i) (c - i)] H (fun v H' => v = .int .u16 (bi es i * 256 + bi es j) ∧ H' = H) := by
  have h := get16 _ _ _ (es.drop i) (hR.suf i (by omega)) (by rw [List.length_drop]; omega) (by omega) (hB.drop i)
  rw [bi_drop, bi_drop] at h
  subst hj
  exact h
theorem getold_short {w0 : World} {H : List Chunk} (sa : Option Addr) (n c : Nat) (es : List Int) (hR : Rd w0 H sa n c 1 (es.map (.int .u8))) (hn : n = es.length) (hm : n ≤ 140737488351232) (hB : Byte es) (h6 : es.length < 6) : SC Try.prog w0 11 #[.slice sa n c] H (fun v H' => FrV w0 H (oldR es) (oldE es) v H') := by
 refine SC.enter Try.func11 rfl (Nat.le_of_ble_eq_true rfl) ?_
 refine SW.seq_k fun K0 hK0 => ?_
 refine SW.region _ _ _ _ ?_
 refine RL.s ?_
 refine NV.alloc T rfl rfl rfl (by exact (rfl : _ = [_, _, _, _, _, _, _, _, _, _, _])) ?_
 intro b2_0
 refine RL.p T ?_
 refine RL.nil _ _ _ _ ?_
 refine hK0 _ _ _ ?_
 refine SW.seq_k fun K1 hK1 => ?_
 refine SW.seq_k fun K2 hK2 => ?_
 refine SW.region _ _ _ _ ?_
 refine RL.p T ?_
 refine RL.p T ?_
 refine RL.p T ?_
 refine RL.nil _ _ _ _ ?_
 refine hK2 _ _ _ ?_
 refine SW.cs (fun hc0 => ?_) (fun hc0 => ?_)
 ·skip
  first
   | (exfalso; first | omega | contradiction | (simp at *; done))
   | (
    refine SW.seq_k fun K3 hK3 => ?_
    refine SW.region _ _ _ _ ?_
    refine RL.s ?_
    first | refine NV.buildc T rfl (rfl : _ = some [_, _, _, _, _, _, _, _, _, _, _]) ?_ | refine NV.buildz T rfl (rfl : _ = some [_, _, _, _, _, _, _, _, _, _, _]) ?_ | refine NV.pure T (rfl : _ = some (Value.agg #[_, _, _, _, _, _, _, _, _, _, _])) ?_
    refine RL.s ?_
    refine NV.sN T rfl rfl rfl (by exact (rfl : _ = [_, _, _, _, _, _, _, _, _, _, _])) (by exact (rfl : _ = [_, _, _, _, _, _, _, _, _, _, _])) ?_
    refine RL.p T ?_
    refine RL.nil _ _ _ _ ?_
    refine hK3 _ _ _ ?_
    refine SW.ret ?_
    refine retQ.rk (RVs.cN T rfl rfl rfl rfl (by exact (rfl : _ = [_, _, _, _, _, _, _, _, _, _, _])) (RVs.t RVs.nil)) ?_
    clear hK3 K3 hK2 K2 hK1 K1 hK0 K0
    rw [(oldE_short h6).1, (oldE_short h6).2]
    exact ⟨none, 0, 0, [_], rfl, rfl, Rd.nilS, rfl⟩
    )
 ·skip
  exfalso; first | omega | contradiction | (simp at *; done)
theorem getold_main {w0 : World} {H : List Chunk} (sa : Option Addr) (n c : Nat) (es : List Int) (hR : Rd w0 H sa n c 1 (es.map (.int .u8))) (hn : n = es.length) (hm : n ≤ 140737488351232) (hB : Byte es) (h6 : 6 ≤ es.length) : SC Try.prog w0 11 #[.slice sa n c] H (fun v H' => FrV w0 H (oldR es) (oldE es) v H') := by
 refine SC.enter Try.func11 rfl (Nat.le_of_ble_eq_true rfl) ?_
 refine SW.seq_k fun K0 hK0 => ?_
 have hb0 := bi_rng hB 0
 have hb1 := bi_rng hB 1
 have hb2 := bi_rng hB 2
 have hb3 := bi_rng hB 3
 have hb4 := bi_rng hB 4
 have hb5 := bi_rng hB 5
 refine SW.region _ _ _ _ ?_
 refine RL.s ?_
 refine NV.alloc T rfl rfl rfl (by exact (rfl : _ = [_, _, _, _, _, _, _, _, _, _, _])) ?_
 intro b2_0
 refine RL.p T ?_
 refine RL.nil _ _ _ _ ?_
 refine hK0 _ _ _ ?_
 refine SW.seq_k fun K1 hK1 => ?_
 refine SW.seq_k fun K2 hK2 => ?_
 refine SW.region _ _ _ _ ?_
 refine RL.p T ?_
 refine RL.p T ?_
 refine RL.p T ?_
 refine RL.nil _ _ _ _ ?_
 refine hK2 _ _ _ ?_
 refine SW.cs (fun hc0 => ?_) (fun hc0 => ?_)
 ·skip
  first
   | (exfalso; first | omega | contradiction | (simp at *; done))
   | (
    refine SW.seq_k fun K3 hK3 => ?_
    refine SW.region _ _ _ _ ?_
    refine RL.s ?_
    first | refine NV.buildc T rfl (rfl : _ = some [_, _, _, _, _, _, _, _, _, _, _]) ?_ | refine NV.buildz T rfl (rfl : _ = some [_, _, _, _, _, _, _, _, _, _, _]) ?_ | refine NV.pure T (rfl : _ = some (Value.agg #[_, _, _, _, _, _, _, _, _, _, _])) ?_
    refine RL.s ?_
    refine NV.sN T rfl rfl rfl (by exact (rfl : _ = [_, _, _, _, _, _, _, _, _, _, _])) (by exact (rfl : _ = [_, _, _, _, _, _, _, _, _, _, _])) ?_
    refine RL.p T ?_
    refine RL.nil _ _ _ _ ?_
    refine hK3 _ _ _ ?_
    refine SW.sat (fun hs => ?_)
    refine SW.ret ?_
    refine retQ.rk (RVs.cN T rfl rfl rfl rfl (by exact (rfl : _ = [_, _, _, _, _, _, _, _, _, _, _])) (RVs.t RVs.nil)) ?_
    clear hK3 K3 hK2 K2 hK1 K1 hK0 K0
    have hdl : (es.drop 6).length = es.length - 6 := List.length_drop
    first
      | (rw [(oldE_form h6 (by omega)).1, (oldE_form h6 (by omega)).2]
         first
           | exact ⟨none, 0, 0, [_, _, _, _], rfl, rfl, Rd.nilS, rfl⟩)
      | (rw [(oldE_less h6 (by omega) (by omega)).1, (oldE_less h6 (by omega) (by omega)).2]
         first
           | exact ⟨none, 0, 0, [_, _, _, _], rfl, rfl, Rd.nilS, rfl⟩)
      | (rw [(oldE_more h6 (by omega) (by omega)).1, (oldE_more h6 (by omega) (by omega)).2]
         first
           | exact ⟨none, 0, 0, [_, _, _, _], rfl, rfl, Rd.nilS, rfl⟩)
      | (rw [(oldE_chk h6 (by omega) (by omega) (by omega)).1, (oldE_chk h6 (by omega) (by omega) (by omega)).2]
         first
           | exact ⟨none, 0, 0, [_, _, _, _], rfl, rfl, Rd.nilS, rfl⟩)
      | (have ho := oldE_ok h6 (by omega) (by omega) (by omega)
         rw [ho.1, ho.2]
         exact ⟨a1, _, c1, [_, _, _, _], rfl, rfl, (Rd.rowh (satl (G := [_, _, _, _]) hs) (by repeat first | exact At.head _ _ | apply At.tail)), rfl⟩)
    )
 ·skip
  first
   | (exfalso; first | omega | contradiction | (simp at *; done))
   | (
    refine SW.skip ?_
    refine hK1 _ _ _ ?_
    refine SW.seq_k fun K4 hK4 => ?_
    refine SW.draw [(12, 0), (13, 1), (14, 2), (15, 3), (16, 4), (17, 5), (18, 6), (19, 7), (20, 8), (21, 9), (22, 10), (23, 11), (24, 12), (25, 13), (26, 14), (27, 15), (28, 16), (29, 17), (30, 18), (31, 19), (4, 20)] [[], [0], [1, 0], [2, 1, 0], [3, 2, 1, 0], [4, 3, 2, 1, 0], [], [6], [7, 6], [8, 7, 6], [9, 8, 7, 6], [], [11], [12, 11, 8, 7, 6], [13, 12, 11, 8, 7, 6], [10, 9, 8, 7, 6, 14, 13, 12, 11], [], [16], [17, 16, 13, 12, 11, 8, 7, 6], [5, 4, 3, 2, 1, 0, 15, 10, 9, 8, 7, 6, 14, 13, 12, 11, 18, 17, 16], [], [20, 19, 5, 4, 3, 2, 1, 0, 15, 10, 9, 8, 7, 6, 14, 13, 12, 11, 18, 17, 16]] mixed (by kernel_rfl) (by kernel_rfl) ?_
    refine RD.p T ?_
    refine RD.q rfl rfl (Gd.none rfl) (QV.indexAddr_slice T rfl rfl rfl rfl rfl (hR.some (by omega)) (by omega) (by omega)) ?_
    refine RD.q rfl rfl (Gd.none rfl) (QV.load_elem T rfl rfl rfl rfl (by repeat first | exact hR | apply Rd.cons | apply Rd.app) (map_as (z := bi es 0) (by show 0 < _; omega) rfl)) ?_
    refine RD.q rfl rfl (Gd.none rfl) (QV.and1b T rfl rfl rfl (by omega) (by omega)) ?_
    refine RD.q rfl rfl (Gd.none rfl) (QV.convI T rfl rfl rfl rfl (by simp only [loK]; omega) (by simp only [hiK]; omega)) ?_
    refine RD.q rfl rfl (Gd.none rfl) (by first | exact QV.arith rfl rfl rfl rfl (by omega) (by omega) | exact QV.arith_u8 rfl rfl rfl rfl (by omega) (by omega) | exact QV.arith_u16 rfl rfl rfl rfl (by omega) (by omega) | exact QV.arith_u32 rfl rfl rfl rfl (by omega) (by omega) | exact QV.arith_u64 rfl rfl rfl rfl (by omega) (by omega) | exact pev_sound T rfl) ?_
    refine RD.p T ?_
    refine RD.q rfl rfl (Gd.none rfl) (QV.sl T  (l1 := 1)) ?_
    refine RD.p T ?_
    refine RD.q rfl rfl (Gd.none rfl) (QV.sl T  (l1 := 3)) ?_
    refine RD.p T ?_
    refine RD.q rfl rfl (Gd.none rfl) (QV.sl T  (l1 := 6)) ?_
    apply RD.shareP1 (β := Option Addr)
    ·intro hsh0
     refine RD.many rfl rfl (.cons ?_ (.cons ?_ .nil))
     ·skip
      refine RD1.nv rfl (Gd.none rfl) ?_
      refine NV.sat (fun hs => ?_) (fun c hc => by cases hc)
      refine NV.call rfl rfl rfl fun30 rfl rfl (get16s 1 2 rfl sa n c es (by repeat first | exact hR | apply Rd.cons | apply Rd.app) hn (by omega) hB) ?_
      rintro _ _ ⟨rfl, e⟩; obtain rfl := e.symm
      refine ⟨(Stab.cons rfl (Gd.none rfl) (QV.sl T  (l1 := 6)) (Stab.cons rfl (Gd.none rfl) (pev_sound T rfl) (Stab.cons rfl (Gd.none rfl) (QV.sl T  (l1 := 3)) (Stab.cons rfl (Gd.none rfl) (pev_sound T rfl) (Stab.cons rfl (Gd.none rfl) (by first | exact pev_sound T rfl | exact QV.arith rfl rfl rfl rfl (by omega) (by omega) | exact QV.arith_u8 rfl rfl rfl rfl (by omega) (by omega) | exact QV.arith_u16 rfl rfl rfl rfl (by omega) (by omega) | exact QV.arith_u32 rfl rfl rfl rfl (by omega) (by omega) | exact QV.arith_u64 rfl rfl rfl rfl (by omega) (by omega) ) (Stab.cons rfl (Gd.none rfl) (QV.convI T rfl rfl rfl rfl (by simp only [loK]; omega) (by simp only [hiK]; omega)) (Stab.cons rfl (Gd.none rfl) (QV.and1b T rfl rfl rfl (by omega) (by omega)) (Stab.cons rfl (Gd.none rfl) (QV.load_elem T rfl rfl rfl rfl (by repeat first | exact hR | apply Rd.cons | apply Rd.app) (map_as (z := bi es 0) (by show 0 < _; omega) rfl)) (Stab.cons rfl (Gd.none rfl) (QV.indexAddr_slice T rfl rfl rfl rfl rfl (hR.some (by omega)) (by omega) (by omega)) (Stab.cons rfl (Gd.none rfl) (pev_sound T rfl) Stab.nil)))))))))), ?_⟩
      refine RD.q rfl rfl (Gd.none rfl) (QV.convI T rfl rfl rfl rfl (by simp only [loK]; omega) (by simp only [hiK]; omega)) ?_
      refine RD.q rfl rfl (Gd.none rfl) (QV.shlP (s := 16) rfl rfl rfl rfl rfl (by simp only [loK]; omega) (by simp only [hiK]; omega)) ?_
      refine RD.many rfl rfl (.cons ?_ (.cons ?_ .nil))
      ·skip
       refine RD1.nv rfl (Gd.none rfl) ?_
       refine NV.sat (fun hs => ?_) (fun c hc => by cases hc)
       refine NV.call rfl rfl rfl fun30 rfl rfl (get16s 3 4 rfl sa n c es (by repeat first | exact hR | apply Rd.cons | apply Rd.app) hn (by omega) hB) ?_
       rintro _ _ ⟨rfl, e⟩; obtain rfl := e.symm
       refine ⟨(Stab.cons rfl (Gd.none rfl) (QV.shlP (s := 16) rfl rfl rfl rfl rfl (by simp only [loK]; omega) (by simp only [hiK]; omega)) (Stab.cons rfl (Gd.none rfl) (QV.convI T rfl rfl rfl rfl (by simp only [loK]; omega) (by simp only [hiK]; omega)) (Stab.cons rfl (Gd.none rfl) (QV.sl T  (l1 := 6)) (Stab.cons rfl (Gd.none rfl) (pev_sound T rfl) (Stab.cons rfl (Gd.none rfl) (by first | exact pev_sound T rfl | exact QV.arith rfl rfl rfl rfl (by omega) (by omega) | exact QV.arith_u8 rfl rfl rfl rfl (by omega) (by omega) | exact QV.arith_u16 rfl rfl rfl rfl (by omega) (by omega) | exact QV.arith_u32 rfl rfl rfl rfl (by omega) (by omega) | exact QV.arith_u64 rfl rfl rfl rfl (by omega) (by omega) ) (Stab.cons rfl (Gd.none rfl) (QV.convI T rfl rfl rfl rfl (by simp only [loK]; omega) (by simp only [hiK]; omega)) (Stab.cons rfl (Gd.none rfl) (QV.and1b T rfl rfl rfl (by omega) (by omega)) (Stab.cons rfl (Gd.none rfl) (QV.load_elem T rfl rfl rfl rfl (by repeat first | exact hR | apply Rd.cons | apply Rd.app) (map_as (z := bi es 0) (by show 0 < _; omega) rfl)) (Stab.cons rfl (Gd.none rfl) (QV.indexAddr_slice T rfl rfl rfl rfl rfl (hR.some (by omega)) (by omega) (by omega)) (Stab.cons rfl (Gd.none rfl) (pev_sound T rfl) Stab.nil)))))))))), ?_⟩
       refine RD.q rfl rfl (Gd.none rfl) (QV.convI T rfl rfl rfl rfl (by simp only [loK]; omega) (by simp only [hiK]; omega)) ?_
       refine RD.q rfl rfl (Gd.none rfl) (QV.as (QV.orD T (bi es 1 * 256 + bi es 2).toNat 16 rfl rfl rfl rfl (by rw [Int.toNat_of_nonneg (by omega)]) (by omega) (by omega) (by simp only [hiK]; omega)) (by rw [oldId_eq]; try rfl)) ?_
       refine RD.many rfl rfl (.cons ?_ (.cons ?_ .nil))
       ·skip
        refine RD1.nv rfl (Gd.none rfl) ?_
        refine NV.sat (fun hs => ?_) (fun c hc => by cases hc)
        refine NV.call rfl rfl rfl fun31 rfl rfl (clone _ _ _ (es.drop 6) (Rd.suf 6 (by repeat first | exact hR | apply Rd.cons | apply Rd.app) (by omega)) (by rw [List.length_drop]; omega) (by omega)) ?_
        rintro _ _ ⟨a1, c1, rfl, e⟩; obtain rfl := e.symm
        refine ⟨(Stab.cons rfl (Gd.none rfl) (QV.as (QV.orD T (bi es 1 * 256 + bi es 2).toNat 16 rfl rfl rfl rfl (by rw [Int.toNat_of_nonneg (by omega)]) (by omega) (by omega) (by simp only [hiK]; omega)) (by rw [oldId_eq]; try rfl)) (Stab.cons rfl (Gd.none rfl) (QV.convI T rfl rfl rfl rfl (by simp only [loK]; omega) (by simp only [hiK]; omega)) (Stab.cons rfl (Gd.none rfl) (QV.shlP (s := 16) rfl rfl rfl rfl rfl (by simp only [loK]; omega) (by simp only [hiK]; omega)) (Stab.cons rfl (Gd.none rfl) (QV.convI T rfl rfl rfl rfl (by simp only [loK]; omega) (by simp only [hiK]; omega)) (Stab.cons rfl (Gd.none rfl) (by first | exact pev_sound T rfl | exact QV.arith rfl rfl rfl rfl (by omega) (by omega) | exact QV.arith_u8 rfl rfl rfl rfl (by omega) (by omega) | exact QV.arith_u16 rfl rfl rfl rfl (by omega) (by omega) | exact QV.arith_u32 rfl rfl rfl rfl (by omega) (by omega) | exact QV.arith_u64 rfl rfl rfl rfl (by omega) (by omega) ) (Stab.cons rfl (Gd.none rfl) (QV.convI T rfl rfl rfl rfl (by simp only [loK]; omega) (by simp only [hiK]; omega)) (Stab.cons rfl (Gd.none rfl) (QV.and1b T rfl rfl rfl (by omega) (by omega)) (Stab.cons rfl (Gd.none rfl) (QV.load_elem T rfl rfl rfl rfl (by repeat first | exact hR | apply Rd.cons | apply Rd.app) (map_as (z := bi es 0) (by show 0 < _; omega) rfl)) (Stab.cons rfl (Gd.none rfl) (QV.indexAddr_slice T rfl rfl rfl rfl rfl (hR.some (by omega)) (by omega) (by omega)) (Stab.cons rfl (Gd.none rfl) (pev_sound T rfl) Stab.nil)))))))))), ?_⟩
        refine RD.q rfl rfl (Gd.none rfl) (by first | exact QV.buildc T rfl (rfl : _ = some [_, _, _, _, _, _, _, _, _, _, _]) | exact pev_sound T (rfl : _ = some (Value.agg #[_, _, _, _, _, _, _, _, _, _, _]))) ?_
        refine RD.nv rfl rfl rfl (Gd.none rfl) ?_
        refine NV.alloc T rfl rfl rfl (by exact (rfl : _ = [_, _, _, _, _, _, _, _, _, _, _])) ?_
        intro b4_1
        refine ⟨(Stab.cons rfl (Gd.none rfl) (pev_sound T rfl) (Stab.cons rfl (Gd.none rfl) (QV.as (QV.orD T (bi es 1 * 256 + bi es 2).toNat 16 rfl rfl rfl rfl (by rw [Int.toNat_of_nonneg (by omega)]) (by omega) (by omega) (by simp only [hiK]; omega)) (by rw [oldId_eq]; try rfl)) (Stab.cons rfl (Gd.none rfl) (QV.convI T rfl rfl rfl rfl (by simp only [loK]; omega) (by simp only [hiK]; omega)) (Stab.cons rfl (Gd.none rfl) (QV.shlP (s := 16) rfl rfl rfl rfl rfl (by simp only [loK]; omega) (by simp only [hiK]; omega)) (Stab.cons rfl (Gd.none rfl) (QV.convI T rfl rfl rfl rfl (by simp only [loK]; omega) (by simp only [hiK]; omega)) (Stab.cons rfl (Gd.none rfl) (QV.sl T  (l1 := 6)) (Stab.cons rfl (Gd.none rfl) (pev_sound T rfl) (Stab.cons rfl (Gd.none rfl) (QV.sl T  (l1 := 3)) (Stab.cons rfl (Gd.none rfl) (pev_sound T rfl) (Stab.cons rfl (Gd.none rfl) (QV.sl T  (l1 := 1)) (Stab.cons rfl (Gd.none rfl) (pev_sound T rfl) (Stab.cons rfl (Gd.none rfl) (by first | exact pev_sound T rfl | exact QV.arith rfl rfl rfl rfl (by omega) (by omega) | exact QV.arith_u8 rfl rfl rfl rfl (by omega) (by omega) | exact QV.arith_u16 rfl rfl rfl rfl (by omega) (by omega) | exact QV.arith_u32 rfl rfl rfl rfl (by omega) (by omega) | exact QV.arith_u64 rfl rfl rfl rfl (by omega) (by omega) ) (Stab.cons rfl (Gd.none rfl) (QV.convI T rfl rfl rfl rfl (by simp only [loK]; omega) (by simp only [hiK]; omega)) (Stab.cons rfl (Gd.none rfl) (QV.and1b T rfl rfl rfl (by omega) (by omega)) (Stab.cons rfl (Gd.none rfl) (QV.load_elem T rfl rfl rfl rfl (by repeat first | exact hR | apply Rd.cons | apply Rd.app) (map_as (z := bi es 0) (by show 0 < _; omega) rfl)) (Stab.cons rfl (Gd.none rfl) (QV.indexAddr_slice T rfl rfl rfl rfl rfl (hR.some (by omega)) (by omega) (by omega)) (Stab.cons rfl (Gd.none rfl) (pev_sound T rfl) Stab.nil))))))))))))))))), ?_⟩
        refine RD.nv rfl rfl rfl (Gd.none rfl) ?_
        refine NV.sN T rfl rfl rfl (by exact (rfl : _ = [_, _, _, _, _, _, _, _, _, _, _])) (by exact (rfl : _ = [_, _, _, _, _, _, _, _, _, _, _])) ?_
        refine ⟨Stab.nil, ?_⟩
        refine RD.k rfl rfl ?_
        exact hsh0 a1 c1 b4_1 _ (by first | exact .refl _ | exact .swap _ _ _ | exact .cons _ (.swap _ _ _) | exact .trans (.swap _ _ _) (.cons _ (.swap _ _ _)) | exact .trans (.cons _ (.swap _ _ _)) (.swap _ _ _) | exact .trans (.swap _ _ _) (.trans (.cons _ (.swap _ _ _)) (.swap _ _ _)))
       ·skip
        refine RD1.nv rfl (Gd.none rfl) ?_
        refine NV.alloc T rfl rfl rfl (by exact (rfl : _ = [_, _, _, _, _, _, _, _, _, _, _])) ?_
        intro b4_1
        refine ⟨(Stab.cons rfl (Gd.none rfl) (QV.as (QV.orD T (bi es 1 * 256 + bi es 2).toNat 16 rfl rfl rfl rfl (by rw [Int.toNat_of_nonneg (by omega)]) (by omega) (by omega) (by simp only [hiK]; omega)) (by rw [oldId_eq]; try rfl)) (Stab.cons rfl (Gd.none rfl) (QV.convI T rfl rfl rfl rfl (by simp only [loK]; omega) (by simp only [hiK]; omega)) (Stab.cons rfl (Gd.none rfl) (QV.shlP (s := 16) rfl rfl rfl rfl rfl (by simp only [loK]; omega) (by simp only [hiK]; omega)) (Stab.cons rfl (Gd.none rfl) (QV.convI T rfl rfl rfl rfl (by simp only [loK]; omega) (by simp only [hiK]; omega)) (Stab.cons rfl (Gd.none rfl) (QV.sl T  (l1 := 6)) (Stab.cons rfl (Gd.none rfl) (pev_sound T rfl) (Stab.cons rfl (Gd.none rfl) (QV.sl T  (l1 := 3)) (Stab.cons rfl (Gd.none rfl) (pev_sound T rfl) (Stab.cons rfl (Gd.none rfl) (QV.sl T  (l1 := 1)) (Stab.cons rfl (Gd.none rfl) (pev_sound T rfl) (Stab.cons rfl (Gd.none rfl) (by first | exact pev_sound T rfl | exact QV.arith rfl rfl rfl rfl (by omega) (by omega) | exact QV.arith_u8 rfl rfl rfl rfl (by omega) (by omega) | exact QV.arith_u16 rfl rfl rfl rfl (by omega) (by omega) | exact QV.arith_u32 rfl rfl rfl rfl (by omega) (by omega) | exact QV.arith_u64 rfl rfl rfl rfl (by omega) (by omega) ) (Stab.cons rfl (Gd.none rfl) (QV.convI T rfl rfl rfl rfl (by simp only [loK]; omega) (by simp only [hiK]; omega)) (Stab.cons rfl (Gd.none rfl) (QV.and1b T rfl rfl rfl (by omega) (by omega)) (Stab.cons rfl (Gd.none rfl) (QV.load_elem T rfl rfl rfl rfl (by repeat first | exact hR | apply Rd.cons | apply Rd.app) (map_as (z := bi es 0) (by show 0 < _; omega) rfl)) (Stab.cons rfl (Gd.none rfl) (QV.indexAddr_slice T rfl rfl rfl rfl rfl (hR.some (by omega)) (by omega) (by omega)) (Stab.cons rfl (Gd.none rfl) (pev_sound T rfl) Stab.nil)))))))))))))))), ?_⟩
        refine RD.nv rfl rfl rfl (Gd.none rfl) ?_
        refine NV.sat (fun hs => ?_) (fun c hc => by cases hc)
        refine NV.call rfl rfl rfl fun31 rfl rfl (clone _ _ _ (es.drop 6) (Rd.suf 6 (by repeat first | exact hR | apply Rd.cons | apply Rd.app) (by omega)) (by rw [List.length_drop]; omega) (by omega)) ?_
        rintro _ _ ⟨a1, c1, rfl, e⟩; obtain rfl := e.symm
        refine ⟨(Stab.cons rfl (Gd.none rfl) (QV.as (QV.orD T (bi es 1 * 256 + bi es 2).toNat 16 rfl rfl rfl rfl (by rw [Int.toNat_of_nonneg (by omega)]) (by omega) (by omega) (by simp only [hiK]; omega)) (by rw [oldId_eq]; try rfl)) (Stab.cons rfl (Gd.none rfl) (QV.convI T rfl rfl rfl rfl (by simp only [loK]; omega) (by simp only [hiK]; omega)) (Stab.cons rfl (Gd.none rfl) (QV.shlP (s := 16) rfl rfl rfl rfl rfl (by simp only [loK]; omega) (by simp only [hiK]; omega)) (Stab.cons rfl (Gd.none rfl) (QV.convI T rfl rfl rfl rfl (by simp only [loK]; omega) (by simp only [hiK]; omega)) (Stab.cons rfl (Gd.none rfl) (by first | exact pev_sound T rfl | exact QV.arith rfl rfl rfl rfl (by omega) (by omega) | exact QV.arith_u8 rfl rfl rfl rfl (by omega) (by omega) | exact QV.arith_u16 rfl rfl rfl rfl (by omega) (by omega) | exact QV.arith_u32 rfl rfl rfl rfl (by omega) (by omega) | exact QV.arith_u64 rfl rfl rfl rfl (by omega) (by omega) ) (Stab.cons rfl (Gd.none rfl) (QV.convI T rfl rfl rfl rfl (by simp only [loK]; omega) (by simp only [hiK]; omega)) (Stab.cons rfl (Gd.none rfl) (QV.and1b T rfl rfl rfl (by omega) (by omega)) (Stab.cons rfl (Gd.none rfl) (QV.load_elem T rfl rfl rfl rfl (by repeat first | exact hR | apply Rd.cons | apply Rd.app) (map_as (z := bi es 0) (by show 0 < _; omega) rfl)) (Stab.cons rfl (Gd.none rfl) (QV.indexAddr_slice T rfl rfl rfl rfl rfl (hR.some (by omega)) (by omega) (by omega)) (Stab.cons rfl (Gd.none rfl) (pev_sound T rfl) Stab.nil)))))))))), ?_⟩
        refine RD.q rfl rfl (Gd.none rfl) (by first | exact QV.buildc T rfl (rfl : _ = some [_, _, _, _, _, _, _, _, _, _, _]) | exact pev_sound T (rfl : _ = some (Value.agg #[_, _, _, _, _, _, _, _, _, _, _]))) ?_
        refine RD.nv rfl rfl rfl (Gd.none rfl) ?_
        refine NV.sN T rfl rfl rfl (by exact (rfl : _ = [_, _, _, _, _, _, _, _, _, _, _])) (by exact (rfl : _ = [_, _, _, _, _, _, _, _, _, _, _])) ?_
        refine ⟨Stab.nil, ?_⟩
        refine RD.k rfl rfl ?_
        exact hsh0 a1 c1 b4_1 _ (by first | exact .refl _ | exact .swap _ _ _ | exact .cons _ (.swap _ _ _) | exact .trans (.swap _ _ _) (.cons _ (.swap _ _ _)) | exact .trans (.cons _ (.swap _ _ _)) (.swap _ _ _) | exact .trans (.swap _ _ _) (.trans (.cons _ (.swap _ _ _)) (.swap _ _ _)))
      ·skip
       refine RD1.nv rfl (Gd.none rfl) ?_
       refine NV.alloc T rfl rfl rfl (by exact (rfl : _ = [_, _, _, _, _, _, _, _, _, _, _])) ?_
       intro b4_1
       refine ⟨(Stab.cons rfl (Gd.none rfl) (QV.shlP (s := 16) rfl rfl rfl rfl rfl (by simp only [loK]; omega) (by simp only [hiK]; omega)) (Stab.cons rfl (Gd.none rfl) (QV.convI T rfl rfl rfl rfl (by simp only [loK]; omega) (by simp only [hiK]; omega)) (Stab.cons rfl (Gd.none rfl) (QV.sl T  (l1 := 6)) (Stab.cons rfl (Gd.none rfl) (pev_sound T rfl) (Stab.cons rfl (Gd.none rfl) (QV.sl T  (l1 := 3)) (Stab.cons rfl (Gd.none rfl) (pev_sound T rfl) (Stab.cons rfl (Gd.none rfl) (QV.sl T  (l1 := 1)) (Stab.cons rfl (Gd.none rfl) (pev_sound T rfl) (Stab.cons rfl (Gd.none rfl) (by first | exact pev_sound T rfl | exact QV.arith rfl rfl rfl rfl (by omega) (by omega) | exact QV.arith_u8 rfl rfl rfl rfl (by omega) (by omega) | exact QV.arith_u16 rfl rfl rfl rfl (by omega) (by omega) | exact QV.arith_u32 rfl rfl rfl rfl (by omega) (by omega) | exact QV.arith_u64 rfl rfl rfl rfl (by omega) (by omega) ) (Stab.cons rfl (Gd.none rfl) (QV.convI T rfl rfl rfl rfl (by simp only [loK]; omega) (by simp only [hiK]; omega)) (Stab.cons rfl (Gd.none rfl) (QV.and1b T rfl rfl rfl (by omega) (by omega)) (Stab.cons rfl (Gd.none rfl) (QV.load_elem T rfl rfl rfl rfl (by repeat first | exact hR | apply Rd.cons | apply Rd.app) (map_as (z := bi es 0) (by show 0 < _; omega) rfl)) (Stab.cons rfl (Gd.none rfl) (QV.indexAddr_slice T rfl rfl rfl rfl rfl (hR.some (by omega)) (by omega) (by omega)) (Stab.cons rfl (Gd.none rfl) (pev_sound T rfl) Stab.nil)))))))))))))), ?_⟩
       refine RD.nv rfl rfl rfl (Gd.none rfl) ?_
       refine NV.sat (fun hs => ?_) (fun c hc => by cases hc)
       refine NV.call rfl rfl rfl fun30 rfl rfl (get16s 3 4 rfl sa n c es (by repeat first | exact hR | apply Rd.cons | apply Rd.app) hn (by omega) hB) ?_
       rintro _ _ ⟨rfl, e⟩; obtain rfl := e.symm
       refine ⟨(Stab.cons rfl (Gd.none rfl) (QV.shlP (s := 16) rfl rfl rfl rfl rfl (by simp only [loK]; omega) (by simp only [hiK]; omega)) (Stab.cons rfl (Gd.none rfl) (QV.convI T rfl rfl rfl rfl (by simp only [loK]; omega) (by simp only [hiK]; omega)) (Stab.cons rfl (Gd.none rfl) (QV.sl T  (l1 := 6)) (Stab.cons rfl (Gd.none rfl) (pev_sound T rfl) (Stab.cons rfl (Gd.none rfl) (by first | exact pev_sound T rfl | exact QV.arith rfl rfl rfl rfl (by omega) (by omega) | exact QV.arith_u8 rfl rfl rfl rfl (by omega) (by omega) | exact QV.arith_u16 rfl rfl rfl rfl (by omega) (by omega) | exact QV.arith_u32 rfl rfl rfl rfl (by omega) (by omega) | exact QV.arith_u64 rfl rfl rfl rfl (by omega) (by omega) ) (Stab.cons rfl (Gd.none rfl) (QV.convI T rfl rfl rfl rfl (by simp only [loK]; omega) (by simp only [hiK]; omega)) (Stab.cons rfl (Gd.none rfl) (QV.and1b T rfl rfl rfl (by omega) (by omega)) (Stab.cons rfl (Gd.none rfl) (QV.load_elem T rfl rfl rfl rfl (by repeat first | exact hR | apply Rd.cons | apply Rd.app) (map_as (z := bi es 0) (by show 0 < _; omega) rfl)) (Stab.cons rfl (Gd.none rfl) (QV.indexAddr_slice T rfl rfl rfl rfl rfl (hR.some (by omega)) (by omega) (by omega)) (Stab.cons rfl (Gd.none rfl) (pev_sound T rfl) Stab.nil)))))))))), ?_⟩
       refine RD.q rfl rfl (Gd.none rfl) (QV.convI T rfl rfl rfl rfl (by simp only [loK]; omega) (by simp only [hiK]; omega)) ?_
       refine RD.q rfl rfl (Gd.none rfl) (QV.as (QV.orD T (bi es 1 * 256 + bi es 2).toNat 16 rfl rfl rfl rfl (by rw [Int.toNat_of_nonneg (by omega)]) (by omega) (by omega) (by simp only [hiK]; omega)) (by rw [oldId_eq]; try rfl)) ?_
       refine RD.nv rfl rfl rfl (Gd.none rfl) ?_
       refine NV.sat (fun hs => ?_) (fun c hc => by cases hc)
       refine NV.call rfl rfl rfl fun31 rfl rfl (clone _ _ _ (es.drop 6) (Rd.suf 6 (by repeat first | exact hR | apply Rd.cons | apply Rd.app) (by omega)) (by rw [List.length_drop]; omega) (by omega)) ?_
       rintro _ _ ⟨a1, c1, rfl, e⟩; obtain rfl := e.symm
       refine ⟨(Stab.cons rfl (Gd.none rfl) (QV.as (QV.orD T (bi es 1 * 256 + bi es 2).toNat 16 rfl rfl rfl rfl (by rw [Int.toNat_of_nonneg (by omega)]) (by omega) (by omega) (by simp only [hiK]; omega)) (by rw [oldId_eq]; try rfl)) (Stab.cons rfl (Gd.none rfl) (QV.convI T rfl rfl rfl rfl (by simp only [loK]; omega) (by simp only [hiK]; omega)) (Stab.cons rfl (Gd.none rfl) (QV.shlP (s := 16) rfl rfl rfl rfl rfl (by simp only [loK]; omega) (by simp only [hiK]; omega)) (Stab.cons rfl (Gd.none rfl) (QV.convI T rfl rfl rfl rfl (by simp only [loK]; omega) (by simp only [hiK]; omega)) (Stab.cons rfl (Gd.none rfl) (by first | exact pev_sound T rfl | exact QV.arith rfl rfl rfl rfl (by omega) (by omega) | exact QV.arith_u8 rfl rfl rfl rfl (by omega) (by omega) | exact QV.arith_u16 rfl rfl rfl rfl (by omega) (by omega) | exact QV.arith_u32 rfl rfl rfl rfl (by omega) (by omega) | exact QV.arith_u64 rfl rfl rfl rfl (by omega) (by omega) ) (Stab.cons rfl (Gd.none rfl) (QV.convI T rfl rfl rfl rfl (by simp only [loK]; omega) (by simp only [hiK]; omega)) (Stab.cons rfl (Gd.none rfl) (QV.and1b T rfl rfl rfl (by omega) (by omega)) (Stab.cons rfl (Gd.none rfl) (QV.load_elem T rfl rfl rfl rfl (by repeat first | exact hR | apply Rd.cons | apply Rd.app) (map_as (z := bi es 0) (by show 0 < _; omega) rfl)) (Stab.cons rfl (Gd.none rfl) (QV.indexAddr_slice T rfl rfl rfl rfl rfl (hR.some (by omega)) (by omega) (by omega)) (Stab.cons rfl (Gd.none rfl) (pev_sound T rfl) Stab.nil)))))))))), ?_⟩
       refine RD.q rfl rfl (Gd.none rfl) (by first | exact QV.buildc T rfl (rfl : _ = some [_, _, _, _, _, _, _, _, _, _, _]) | exact pev_sound T (rfl : _ = some (Value.agg #[_, _, _, _, _, _, _, _, _, _, _]))) ?_
       refine RD.nv rfl rfl rfl (Gd.none rfl) ?_
       refine NV.sN T rfl rfl rfl (by exact (rfl : _ = [_, _, _, _, _, _, _, _, _, _, _])) (by exact (rfl : _ = [_, _, _, _, _, _, _, _, _, _, _])) ?_
       refine ⟨Stab.nil, ?_⟩
       refine RD.k rfl rfl ?_
       exact hsh0 a1 c1 b4_1 _ (by first | exact .refl _ | exact .swap _ _ _ | exact .cons _ (.swap _ _ _) | exact .trans (.swap _ _ _) (.cons _ (.swap _ _ _)) | exact .trans (.cons _ (.swap _ _ _)) (.swap _ _ _) | exact .trans (.swap _ _ _) (.trans (.cons _ (.swap _ _ _)) (.swap _ _ _)))
     ·skip
      refine RD1.nv rfl (Gd.none rfl) ?_
      refine NV.alloc T rfl rfl rfl (by exact (rfl : _ = [_, _, _, _, _, _, _, _, _, _, _])) ?_
      intro b4_1
      refine ⟨(Stab.cons rfl (Gd.none rfl) (QV.sl T  (l1 := 6)) (Stab.cons rfl (Gd.none rfl) (pev_sound T rfl) (Stab.cons rfl (Gd.none rfl) (QV.sl T  (l1 := 3)) (Stab.cons rfl (Gd.none rfl) (pev_sound T rfl) (Stab.cons rfl (Gd.none rfl) (QV.sl T  (l1 := 1)) (Stab.cons rfl (Gd.none rfl) (pev_sound T rfl) (Stab.cons rfl (Gd.none rfl) (by first | exact pev_sound T rfl | exact QV.arith rfl rfl rfl rfl (by omega) (by omega) | exact QV.arith_u8 rfl rfl rfl rfl (by omega) (by omega) | exact QV.arith_u16 rfl rfl rfl rfl (by omega) (by omega) | exact QV.arith_u32 rfl rfl rfl rfl (by omega) (by omega) | exact QV.arith_u64 rfl rfl rfl rfl (by omega) (by omega) ) (Stab.cons rfl (Gd.none rfl) (QV.convI T rfl rfl rfl rfl (by simp only [loK]; omega) (by simp only [hiK]; omega)) (Stab.cons rfl (Gd.none rfl) (QV.and1b T rfl rfl rfl (by omega) (by omega)) (Stab.cons rfl (Gd.none rfl) (QV.load_elem T rfl rfl rfl rfl (by repeat first | exact hR | apply Rd.cons | apply Rd.app) (map_as (z := bi es 0) (by show 0 < _; omega) rfl)) (Stab.cons rfl (Gd.none rfl) (QV.indexAddr_slice T rfl rfl rfl rfl rfl (hR.some (by omega)) (by omega) (by omega)) (Stab.cons rfl (Gd.none rfl) (pev_sound T rfl) Stab.nil)))))))))))), ?_⟩
      refine RD.nv rfl rfl rfl (Gd.none rfl) ?_
      refine NV.sat (fun hs => ?_) (fun c hc => by cases hc)
      refine NV.call rfl rfl rfl fun30 rfl rfl (get16s 1 2 rfl sa n c es (by repeat first | exact hR | apply Rd.cons | apply Rd.app) hn (by omega) hB) ?_
      rintro _ _ ⟨rfl, e⟩; obtain rfl := e.symm
      refine ⟨(Stab.cons rfl (Gd.none rfl) (QV.sl T  (l1 := 6)) (Stab.cons rfl (Gd.none rfl) (pev_sound T rfl) (Stab.cons rfl (Gd.none rfl) (QV.sl T  (l1 := 3)) (Stab.cons rfl (Gd.none rfl) (pev_sound T rfl) (Stab.cons rfl (Gd.none rfl) (by first | exact pev_sound T rfl | exact QV.arith rfl rfl rfl rfl (by omega) (by omega) | exact QV.arith_u8 rfl rfl rfl rfl (by omega) (by omega) | exact QV.arith_u16 rfl rfl rfl rfl (by omega) (by omega) | exact QV.arith_u32 rfl rfl rfl rfl (by omega) (by omega) | exact QV.arith_u64 rfl rfl rfl rfl (by omega) (by omega) ) (Stab.cons rfl (Gd.none rfl) (QV.convI T rfl rfl rfl rfl (by simp only [loK]; omega) (by simp only [hiK]; omega)) (Stab.cons rfl (Gd.none rfl) (QV.and1b T rfl rfl rfl (by omega) (by omega)) (Stab.cons rfl (Gd.none rfl) (QV.load_elem T rfl rfl rfl rfl (by repeat first | exact hR | apply Rd.cons | apply Rd.app) (map_as (z := bi es 0) (by show 0 < _; omega) rfl)) (Stab.cons rfl (Gd.none rfl) (QV.indexAddr_slice T rfl rfl rfl rfl rfl (hR.some (by omega)) (by omega) (by omega)) (Stab.cons rfl (Gd.none rfl) (pev_sound T rfl) Stab.nil)))))))))), ?_⟩
      refine RD.q rfl rfl (Gd.none rfl) (QV.convI T rfl rfl rfl rfl (by simp only [loK]; omega) (by simp only [hiK]; omega)) ?_
      refine RD.q rfl rfl (Gd.none rfl) (QV.shlP (s := 16) rfl rfl rfl rfl rfl (by simp only [loK]; omega) (by simp only [hiK]; omega)) ?_
      refine RD.nv rfl rfl rfl (Gd.none rfl) ?_
      refine NV.sat (fun hs => ?_) (fun c hc => by cases hc)
      refine NV.call rfl rfl rfl fun30 rfl rfl (get16s 3 4 rfl sa n c es (by repeat first | exact hR | apply Rd.cons | apply Rd.app) hn (by omega) hB) ?_
      rintro _ _ ⟨rfl, e⟩; obtain rfl := e.symm
      refine ⟨(Stab.cons rfl (Gd.none rfl) (QV.shlP (s := 16) rfl rfl rfl rfl rfl (by simp only [loK]; omega) (by simp only [hiK]; omega)) (Stab.cons rfl (Gd.none rfl) (QV.convI T rfl rfl rfl rfl (by simp only [loK]; omega) (by simp only [hiK]; omega)) (Stab.cons rfl (Gd.none rfl) (QV.sl T  (l1 := 6)) (Stab.cons rfl (Gd.none rfl) (pev_sound T rfl) (Stab.cons rfl (Gd.none rfl) (by first | exact pev_sound T rfl | exact QV.arith rfl rfl rfl rfl (by omega) (by omega) | exact QV.arith_u8 rfl rfl rfl rfl (by omega) (by omega) | exact QV.arith_u16 rfl rfl rfl rfl (by omega) (by omega) | exact QV.arith_u32 rfl rfl rfl rfl (by omega) (by omega) | exact QV.arith_u64 rfl rfl rfl rfl (by omega) (by omega) ) (Stab.cons rfl (Gd.none rfl) (QV.convI T rfl rfl rfl rfl (by simp only [loK]; omega) (by simp only [hiK]; omega)) (Stab.cons rfl (Gd.none rfl) (QV.and1b T rfl rfl rfl (by omega) (by omega)) (Stab.cons rfl (Gd.none rfl) (QV.load_elem T rfl rfl rfl rfl (by repeat first | exact hR | apply Rd.cons | apply Rd.app) (map_as (z := bi es 0) (by show 0 < _; omega) rfl)) (Stab.cons rfl (Gd.none rfl) (QV.indexAddr_slice T rfl rfl rfl rfl rfl (hR.some (by omega)) (by omega) (by omega)) (Stab.cons rfl (Gd.none rfl) (pev_sound T rfl) Stab.nil)))))))))), ?_⟩
      refine RD.q rfl rfl (Gd.none rfl) (QV.convI T rfl rfl rfl rfl (by simp only [loK]; omega) (by simp only [hiK]; omega)) ?_
      refine RD.q rfl rfl (Gd.none rfl) (QV.as (QV.orD T (bi es 1 * 256 + bi es 2).toNat 16 rfl rfl rfl rfl (by rw [Int.toNat_of_nonneg (by omega)]) (by omega) (by omega) (by simp only [hiK]; omega)) (by rw [oldId_eq]; try rfl)) ?_
      refine RD.nv rfl rfl rfl (Gd.none rfl) ?_
      refine NV.sat (fun hs => ?_) (fun c hc => by cases hc)
      refine NV.call rfl rfl rfl fun31 rfl rfl (clone _ _ _ (es.drop 6) (Rd.suf 6 (by repeat first | exact hR | apply Rd.cons | apply Rd.app) (by omega)) (by rw [List.length_drop]; omega) (by omega)) ?_
      rintro _ _ ⟨a1, c1, rfl, e⟩; obtain rfl := e.symm
      refine ⟨(Stab.cons rfl (Gd.none rfl) (QV.as (QV.orD T (bi es 1 * 256 + bi es 2).toNat 16 rfl rfl rfl rfl (by rw [Int.toNat_of_nonneg (by omega)]) (by omega) (by omega) (by simp only [hiK]; omega)) (by rw [oldId_eq]; try rfl)) (Stab.cons rfl (Gd.none rfl) (QV.convI T rfl rfl rfl rfl (by simp only [loK]; omega) (by simp only [hiK]; omega)) (Stab.cons rfl (Gd.none rfl) (QV.shlP (s := 16) rfl rfl rfl rfl rfl (by simp only [loK]; omega) (by simp only [hiK]; omega)) (Stab.cons rfl (Gd.none rfl) (QV.convI T rfl rfl rfl rfl (by simp only [loK]; omega) (by simp only [hiK]; omega)) (Stab.cons rfl (Gd.none rfl) (by first | exact pev_sound T rfl | exact QV.arith rfl rfl rfl rfl (by omega) (by omega) | exact QV.arith_u8 rfl rfl rfl rfl (by omega) (by omega) | exact QV.arith_u16 rfl rfl rfl rfl (by omega) (by omega) | exact QV.arith_u32 rfl rfl rfl rfl (by omega) (by omega) | exact QV.arith_u64 rfl rfl rfl rfl (by omega) (by omega) ) (Stab.cons rfl (Gd.none rfl) (QV.convI T rfl rfl rfl rfl (by simp only [loK]; omega) (by simp only [hiK]; omega)) (Stab.cons rfl (Gd.none rfl) (QV.and1b T rfl rfl rfl (by omega) (by omega)) (Stab.cons rfl (Gd.none rfl) (QV.load_elem T rfl rfl rfl rfl (by repeat first | exact hR | apply Rd.cons | apply Rd.app) (map_as (z := bi es 0) (by show 0 < _; omega) rfl)) (Stab.cons rfl (Gd.none rfl) (QV.indexAddr_slice T rfl rfl rfl rfl rfl (hR.some (by omega)) (by omega) (by omega)) (Stab.cons rfl (Gd.none rfl) (pev_sound T rfl) Stab.nil)))))))))), ?_⟩
      refine RD.q rfl rfl (Gd.none rfl) (by first | exact QV.buildc T rfl (rfl : _ = some [_, _, _, _, _, _, _, _, _, _, _]) | exact pev_sound T (rfl : _ = some (Value.agg #[_, _, _, _, _, _, _, _, _, _, _]))) ?_
      refine RD.nv rfl rfl rfl (Gd.none rfl) ?_
      refine NV.sN T rfl rfl rfl (by exact (rfl : _ = [_, _, _, _, _, _, _, _, _, _, _])) (by exact (rfl : _ = [_, _, _, _, _, _, _, _, _, _, _])) ?_
      refine ⟨Stab.nil, ?_⟩
      refine RD.k rfl rfl ?_
      exact hsh0 a1 c1 b4_1 _ (by first | exact .refl _ | exact .swap _ _ _ | exact .cons _ (.swap _ _ _) | exact .trans (.swap _ _ _) (.cons _ (.swap _ _ _)) | exact .trans (.cons _ (.swap _ _ _)) (.swap _ _ _) | exact .trans (.swap _ _ _) (.trans (.cons _ (.swap _ _ _)) (.swap _ _ _)))
    ·intro a1 c1 b4_1 Hp3 hp3
     refine hK4 _ _ _ ?_
     refine SW.perm' hp3 ?_
     refine SW.seq_k fun K5 hK5 => ?_
     refine SW.seq_k fun K6 hK6 => ?_
     refine SW.region _ _ _ _ ?_
     refine RL.c fun26 (fun hs => marks b4_1 (oldS es 0) a1 (es.drop 6).length c1) ?_
     rintro _ _ ⟨fd, rfl, e⟩; obtain rfl := e.symm
     refine RL.p T ?_
     refine RL.nil _ _ _ _ ?_
     refine hK6 _ _ _ ?_
     refine SW.block ?_
     refine SW.loopM (fun frB mm fr ds HH => ∃ (k : Nat) (d : Bool), mm = 5 - k ∧ (k ≤ 5) ∧ FrIs [5, 6, 33, 34, 35, 36, 37, 38, 39, 40, 41, 42, 43, 44, 45, 46] frB fr [(33, .int .i64 k)] ∧ ds = [] ∧ HH = (.var fd 4 [.bool d] :: .var b4_1 25 (FC (oldS es k) a1 (es.drop 6).length c1) :: .row a1 (es.drop 6).length c1 5 1 ((es.drop 6).map (.int .u8)) :: .var b2_0 25 (FC (zeroF 0) none 0 0) :: H)) (n := 5 - 0) ?_ ?_
     ·exact ⟨0, _, rfl, by omega, (.consI rfl (by first | omega | rfl) (.nil (by repeat first | exact Mx.refl | exact Mx.mix | refine Mx.put rfl ?_ | refine Mx.upd rfl ?_ | refine Mx.updl rfl ?_ | refine Mx.fin rfl ?_ | refine Mx.inner rfl ?_ | refine Mx.none ?_))), rfl, rfl⟩
     ·rintro mm fr ds HH ⟨k, d, rfl, hk5, hFr, rfl, eHH⟩
      obtain rfl := eHH.symm
      obtain ⟨frU, rfl⟩ := hFr.eq
      clear hFr
      rcases (by omega : k = 0 ∨ k = 1 ∨ k = 2 ∨ k = 3 ∨ k = 4 ∨ k = 5) with rfl | rfl | rfl | rfl | rfl | rfl
      ·skip
       refine SW.seq_k fun K7 hK7 => ?_
       refine SW.region _ _ _ _ ?_
       refine RL.p T ?_
       refine RL.nil _ _ _ _ ?_
       refine hK7 _ _ _ ?_
       refine SW.seq_k fun K8 hK8 => ?_
       refine SW.cs (fun hc1 => ?_) (fun hc1 => ?_)
       ·skip
        first
         | (exfalso; first | omega | contradiction | (simp at *; done))
         | (
          refine SW.skip ?_
          refine hK8 _ _ _ ?_
          refine SW.seq_k fun K9 hK9 => ?_
          refine SW.block ?_
          refine SW.seq_k fun K10 hK10 => ?_
          refine SW.region _ _ _ _ ?_
          refine RL.p T ?_
          refine RL.p T ?_
          refine RL.p T ?_
          refine RL.p T ?_
          refine RL.nil _ _ _ _ ?_
          refine hK10 _ _ _ ?_
          refine SW.region _ _ _ _ ?_
          refine RL.p T ?_
          refine RL.p T ?_
          refine RL.ix T ?_ (hR := fun hs => (by repeat first | exact hR | apply Rd.cons | apply Rd.app))
          refine RL.le T ?_ (hR := fun hs => (by repeat first | exact hR | apply Rd.cons | apply Rd.app)) (hv := map_as (z := bi es 0) (by omega) rfl)
          refine RL.p T ?_
          first | refine RL.q (QV.shrP rfl rfl rfl (by exact (rfl : _ = ((_ : Nat) : Int))) (by omega) rfl) ?_ | refine RL.q (QV.shift rfl rfl rfl (by omega) (.inr ⟨rfl, rfl⟩)) ?_
          refine RL.q (QV.and1b T rfl rfl rfl (by omega) (by omega)) ?_
          refine RL.p T ?_
          refine RL.p T ?_
          refine RL.s ?_
          first
            | refine NV.store_var1 T rfl rfl rfl rfl (by conv => lhs; whnf) rfl (by repeat first | exact At.head _ _ | assumption | exact At.put (by assumption) _ | apply At.tail | apply At.app) rfl rfl ?_
            | refine NV.store_var T rfl rfl rfl (by exact (rfl : _ = [_])) rfl rfl (by repeat first | exact At.head _ _ | assumption | exact At.put (by assumption) _ | apply At.tail | apply At.app) (Nat.le_of_ble_eq_true rfl) rfl ?_
            | refine NV.store_elem T rfl rfl rfl rfl (by conv => lhs; whnf) rfl (by repeat first | exact At.head _ _ | assumption | exact At.put (by assumption) _ | apply At.tail | apply At.app) (by omega) ?_
          refine RL.nil _ _ _ _ ?_
          refine hK9 _ _ _ ?_
          refine SW.region _ _ _ _ ?_
          first | refine RL.ar ?_ | refine RL.p T ?_
          refine RL.p T ?_
          refine RL.nil _ _ _ _ ?_
          exact ⟨5 - 1, (by omega), 1, _, (by rfl), by omega, (.consI rfl (by first | omega | rfl) (.nil (by repeat first | exact Mx.refl | exact Mx.mix | refine Mx.put rfl ?_ | refine Mx.upd rfl ?_ | refine Mx.updl rfl ?_ | refine Mx.fin rfl ?_ | refine Mx.inner rfl ?_ | refine Mx.none ?_))), rfl, rfl⟩
          )
       ·skip
        first
         | (exfalso; first | omega | contradiction | (simp at *; done))
         | (
          refine SW.exit ?_
          refine hK5 _ _ _ ?_
          refine SW.seq_k fun K11 hK11 => ?_
          refine SW.seq_k fun K12 hK12 => ?_
          refine SW.region _ _ _ _ ?_
          refine RL.p T ?_
          refine RL.ix T ?_ (hR := fun hs => (by repeat first | exact hR | apply Rd.cons | apply Rd.app))
          refine RL.le T ?_ (hR := fun hs => (by repeat first | exact hR | apply Rd.cons | apply Rd.app)) (hv := map_as (z := bi es 5) (by omega) rfl)
          first | refine RL.cv T ?_ | refine RL.p T ?_ | refine RL.ts T ?_
          refine RL.p T ?_
          refine RL.nil _ _ _ _ ?_
          refine hK12 _ _ _ ?_
          refine SW.block ?_
          refine SW.seq_k fun K13 hK13 => ?_
          refine SW.region _ _ _ _ ?_
          refine RL.p T ?_
          refine RL.ix T ?_ (hR := fun hs => (by repeat first | exact hR | apply Rd.cons | apply Rd.app))
          refine RL.le T ?_ (hR := fun hs => (by repeat first | exact hR | apply Rd.cons | apply Rd.app)) (hv := map_as (z := bi es 0) (by omega) rfl)
          first | refine RL.q (QV.shrP rfl rfl rfl (by exact (rfl : _ = ((_ : Nat) : Int))) (by omega) rfl) ?_ | refine RL.q (QV.shift rfl rfl rfl (by omega) (.inr ⟨rfl, rfl⟩)) ?_
          refine RL.p T ?_
          refine RL.p T ?_
          refine RL.nil _ _ _ _ ?_
          refine hK13 _ _ _ ?_
          refine SW.cs (fun hc2 => ?_) (fun hc2 => ?_)
          ·skip
           first
            | (exfalso; first | omega | contradiction | (simp at *; done))
            | (
             refine SW.seq_k fun K14 hK14 => ?_
             refine SW.region _ _ _ _ ?_
             refine RL.s ?_
             first | refine NV.buildc T rfl (rfl : _ = some [_, _, _, _, _, _, _, _, _, _, _]) ?_ | refine NV.buildz T rfl (rfl : _ = some [_, _, _, _, _, _, _, _, _, _, _]) ?_ | refine NV.pure T (rfl : _ = some (Value.agg #[_, _, _, _, _, _, _, _, _, _, _])) ?_
             refine RL.s ?_
             refine NV.sN T rfl rfl rfl (by exact (rfl : _ = [_, _, _, _, _, _, _, _, _, _, _])) (by exact (rfl : _ = [_, _, _, _, _, _, _, _, _, _, _])) ?_
             refine RL.p T ?_
             refine RL.nil _ _ _ _ ?_
             refine hK14 _ _ _ ?_
             refine SW.sat (fun hs => ?_)
             refine SW.ret ?_
             refine retQ.rk (RVs.cN T rfl rfl rfl rfl (by exact (rfl : _ = [_, _, _, _, _, _, _, _, _, _, _])) (RVs.t RVs.nil)) ?_
             clear hK14 K14 hK13 K13 hK12 K12 hK11 K11 hK8 K8 hK7 K7 hK6 K6 hK5 K5 hK4 K4 hK2 K2 hK1 K1 hK0 K0
             have hdl : (es.drop 6).length = es.length - 6 := List.length_drop
             first
               | (rw [(oldE_form h6 (by omega)).1, (oldE_form h6 (by omega)).2]
                  first
                    | exact ⟨none, 0, 0, [_, _, _, _], rfl, rfl, Rd.nilS, rfl⟩)
               | (rw [(oldE_less h6 (by omega) (by omega)).1, (oldE_less h6 (by omega) (by omega)).2]
                  first
                    | exact ⟨none, 0, 0, [_, _, _, _], rfl, rfl, Rd.nilS, rfl⟩)
               | (rw [(oldE_more h6 (by omega) (by omega)).1, (oldE_more h6 (by omega) (by omega)).2]
                  first
                    | exact ⟨none, 0, 0, [_, _, _, _], rfl, rfl, Rd.nilS, rfl⟩)
               | (rw [(oldE_chk h6 (by omega) (by omega) (by omega)).1, (oldE_chk h6 (by omega) (by omega) (by omega)).2]
                  first
                    | exact ⟨none, 0, 0, [_, _, _, _], rfl, rfl, Rd.nilS, rfl⟩)
               | (have ho := oldE_ok h6 (by omega) (by omega) (by omega)
                  rw [ho.1, ho.2]
                  exact ⟨a1, _, c1, [_, _, _, _], rfl, rfl, (Rd.rowh (satl (G := [_, _, _, _]) hs) (by repeat first | exact At.head _ _ | apply At.tail)), rfl⟩)
             )
          ·skip
           first
            | (exfalso; first | omega | contradiction | (simp at *; done))
            | (
             refine SW.seq_k fun K15 hK15 => ?_
             refine SW.region _ _ _ _ ?_
             refine RL.p T ?_
             refine RL.lv1 T ?_
             refine RL.p T ?_
             refine RL.p T ?_
             refine RL.p T ?_
             refine RL.p T ?_
             refine RL.nil _ _ _ _ ?_
             refine hK15 _ _ _ ?_
             refine SW.cs (fun hc3 => ?_) (fun hc3 => ?_)
             ·skip
              first
               | (exfalso; first | omega | contradiction | (simp at *; done))
               | (
                refine SW.seq_k fun K16 hK16 => ?_
                refine SW.region _ _ _ _ ?_
                refine RL.s ?_
                first | refine NV.buildc T rfl (rfl : _ = some [_, _, _, _, _, _, _, _, _, _, _]) ?_ | refine NV.buildz T rfl (rfl : _ = some [_, _, _, _, _, _, _, _, _, _, _]) ?_ | refine NV.pure T (rfl : _ = some (Value.agg #[_, _, _, _, _, _, _, _, _, _, _])) ?_
                refine RL.s ?_
                refine NV.sN T rfl rfl rfl (by exact (rfl : _ = [_, _, _, _, _, _, _, _, _, _, _])) (by exact (rfl : _ = [_, _, _, _, _, _, _, _, _, _, _])) ?_
                refine RL.p T ?_
                refine RL.nil _ _ _ _ ?_
                refine hK16 _ _ _ ?_
                refine SW.sat (fun hs => ?_)
                refine SW.ret ?_
                refine retQ.rk (RVs.cN T rfl rfl rfl rfl (by exact (rfl : _ = [_, _, _, _, _, _, _, _, _, _, _])) (RVs.t RVs.nil)) ?_
                clear hK16 K16 hK15 K15 hK13 K13 hK12 K12 hK11 K11 hK8 K8 hK7 K7 hK6 K6 hK5 K5 hK4 K4 hK2 K2 hK1 K1 hK0 K0
                have hdl : (es.drop 6).length = es.length - 6 := List.length_drop
                first
                  | (rw [(oldE_form h6 (by omega)).1, (oldE_form h6 (by omega)).2]
                     first
                       | exact ⟨none, 0, 0, [_, _, _, _], rfl, rfl, Rd.nilS, rfl⟩)
                  | (rw [(oldE_less h6 (by omega) (by omega)).1, (oldE_less h6 (by omega) (by omega)).2]
                     first
                       | exact ⟨none, 0, 0, [_, _, _, _], rfl, rfl, Rd.nilS, rfl⟩)
                  | (rw [(oldE_more h6 (by omega) (by omega)).1, (oldE_more h6 (by omega) (by omega)).2]
                     first
                       | exact ⟨none, 0, 0, [_, _, _, _], rfl, rfl, Rd.nilS, rfl⟩)
                  | (rw [(oldE_chk h6 (by omega) (by omega) (by omega)).1, (oldE_chk h6 (by omega) (by omega) (by omega)).2]
                     first
                       | exact ⟨none, 0, 0, [_, _, _, _], rfl, rfl, Rd.nilS, rfl⟩)
                  | (have ho := oldE_ok h6 (by omega) (by omega) (by omega)
                     rw [ho.1, ho.2]
                     exact ⟨a1, _, c1, [_, _, _, _], rfl, rfl, (Rd.rowh (satl (G := [_, _, _, _]) hs) (by repeat first | exact At.head _ _ | apply At.tail)), rfl⟩)
                )
             ·skip
              first
               | (exfalso; first | omega | contradiction | (simp at *; done))
               | (
                refine SW.seq_k fun K17 hK17 => ?_
                refine SW.region _ _ _ _ ?_
                refine RL.p T ?_
                refine RL.lv1 T ?_
                refine RL.p T ?_
                refine RL.p T ?_
                refine RL.p T ?_
                refine RL.p T ?_
                refine RL.nil _ _ _ _ ?_
                refine hK17 _ _ _ ?_
                refine SW.cs (fun hc4 => ?_) (fun hc4 => ?_)
                ·skip
                 first
                  | (exfalso; first | omega | contradiction | (simp at *; done))
                  | (
                   refine SW.seq_k fun K18 hK18 => ?_
                   refine SW.region _ _ _ _ ?_
                   refine RL.s ?_
                   first | refine NV.buildc T rfl (rfl : _ = some [_, _, _, _, _, _, _, _, _, _, _]) ?_ | refine NV.buildz T rfl (rfl : _ = some [_, _, _, _, _, _, _, _, _, _, _]) ?_ | refine NV.pure T (rfl : _ = some (Value.agg #[_, _, _, _, _, _, _, _, _, _, _])) ?_
                   refine RL.s ?_
                   refine NV.sN T rfl rfl rfl (by exact (rfl : _ = [_, _, _, _, _, _, _, _, _, _, _])) (by exact (rfl : _ = [_, _, _, _, _, _, _, _, _, _, _])) ?_
                   refine RL.p T ?_
                   refine RL.nil _ _ _ _ ?_
                   refine hK18 _ _ _ ?_
                   refine SW.sat (fun hs => ?_)
                   refine SW.ret ?_
                   refine retQ.rk (RVs.cN T rfl rfl rfl rfl (by exact (rfl : _ = [_, _, _, _, _, _, _, _, _, _, _])) (RVs.t RVs.nil)) ?_
                   clear hK18 K18 hK17 K17 hK15 K15 hK13 K13 hK12 K12 hK11 K11 hK8 K8 hK7 K7 hK6 K6 hK5 K5 hK4 K4 hK2 K2 hK1 K1 hK0 K0
                   have hdl : (es.drop 6).length = es.length - 6 := List.length_drop
                   first
                     | (rw [(oldE_form h6 (by omega)).1, (oldE_form h6 (by omega)).2]
                        first
                          | exact ⟨none, 0, 0, [_, _, _, _], rfl, rfl, Rd.nilS, rfl⟩)
                     | (rw [(oldE_less h6 (by omega) (by omega)).1, (oldE_less h6 (by omega) (by omega)).2]
                        first
                          | exact ⟨none, 0, 0, [_, _, _, _], rfl, rfl, Rd.nilS, rfl⟩)
                     | (rw [(oldE_more h6 (by omega) (by omega)).1, (oldE_more h6 (by omega) (by omega)).2]
                        first
                          | exact ⟨none, 0, 0, [_, _, _, _], rfl, rfl, Rd.nilS, rfl⟩)
                     | (rw [(oldE_chk h6 (by omega) (by omega) (by omega)).1, (oldE_chk h6 (by omega) (by omega) (by omega)).2]
                        first
                          | exact ⟨none, 0, 0, [_, _, _, _], rfl, rfl, Rd.nilS, rfl⟩)
                     | (have ho := oldE_ok h6 (by omega) (by omega) (by omega)
                        rw [ho.1, ho.2]
                        exact ⟨a1, _, c1, [_, _, _, _], rfl, rfl, (Rd.rowh (satl (G := [_, _, _, _]) hs) (by repeat first | exact At.head _ _ | apply At.tail)), rfl⟩)
                   )
                ·skip
                 first
                  | (exfalso; first | omega | contradiction | (simp at *; done))
                  | (
                   refine SW.seq_k fun K19 hK19 => ?_
                   refine SW.region _ _ _ _ ?_
                   refine RL.q (QV.vN T rfl rfl rfl rfl rfl (by exact (rfl : _ = [_, _, _, _, _, _, _, _, _, _, _]))) ?_
                   refine RL.c fun25 (fun hs => fcheck (oldF es) a1 (es.drop 6).length c1 (Rd.rowh hs (by repeat first | exact At.head _ _ | apply At.tail)) rfl (by rw [List.length_drop]; omega) (oldS_ok hB 5)) ?_
                   rintro _ _ ⟨rfl, e⟩; obtain rfl := e.symm
                   refine RL.p T ?_
                   refine RL.p T ?_
                   refine RL.nil _ _ _ _ ?_
                   refine hK19 _ _ _ ?_
                   refine SW.cs (fun hc5 => ?_) (fun hc5 => ?_)
                   ·skip
                    first
                     | (exfalso; first | omega | contradiction | (simp at *; done))
                     | (
                      refine SW.seq_k fun K20 hK20 => ?_
                      refine SW.region _ _ _ _ ?_
                      refine RL.s ?_
                      first | refine NV.buildc T rfl (rfl : _ = some [_, _, _, _, _, _, _, _, _, _, _]) ?_ | refine NV.buildz T rfl (rfl : _ = some [_, _, _, _, _, _, _, _, _, _, _]) ?_ | refine NV.pure T (rfl : _ = some (Value.agg #[_, _, _, _, _, _, _, _, _, _, _])) ?_
                      refine RL.s ?_
                      refine NV.sN T rfl rfl rfl (by exact (rfl : _ = [_, _, _, _, _, _, _, _, _, _, _])) (by exact (rfl : _ = [_, _, _, _, _, _, _, _, _, _, _])) ?_
                      refine RL.p T ?_
                      refine RL.nil _ _ _ _ ?_
                      refine hK20 _ _ _ ?_
                      refine SW.sat (fun hs => ?_)
                      refine SW.ret ?_
                      refine retQ.rk (RVs.cN T rfl rfl rfl rfl (by exact (rfl : _ = [_, _, _, _, _, _, _, _, _, _, _])) (RVs.t RVs.nil)) ?_
                      clear hK20 K20 hK19 K19 hK17 K17 hK15 K15 hK13 K13 hK12 K12 hK11 K11 hK8 K8 hK7 K7 hK6 K6 hK5 K5 hK4 K4 hK2 K2 hK1 K1 hK0 K0
                      have hdl : (es.drop 6).length = es.length - 6 := List.length_drop
                      first
                        | (rw [(oldE_form h6 (by omega)).1, (oldE_form h6 (by omega)).2]
                           first
                             | exact ⟨none, 0, 0, [_, _, _, _], rfl, rfl, Rd.nilS, rfl⟩)
                        | (rw [(oldE_less h6 (by omega) (by omega)).1, (oldE_less h6 (by omega) (by omega)).2]
                           first
                             | exact ⟨none, 0, 0, [_, _, _, _], rfl, rfl, Rd.nilS, rfl⟩)
                        | (rw [(oldE_more h6 (by omega) (by omega)).1, (oldE_more h6 (by omega) (by omega)).2]
                           first
                             | exact ⟨none, 0, 0, [_, _, _, _], rfl, rfl, Rd.nilS, rfl⟩)
                        | (rw [(oldE_chk h6 (by omega) (by omega) (by omega)).1, (oldE_chk h6 (by omega) (by omega) (by omega)).2]
                           first
                             | exact ⟨none, 0, 0, [_, _, _, _], rfl, rfl, Rd.nilS, rfl⟩)
                        | (have ho := oldE_ok h6 (by omega) (by omega) (by omega)
                           rw [ho.1, ho.2]
                           exact ⟨a1, _, c1, [_, _, _, _], rfl, rfl, (Rd.rowh (satl (G := [_, _, _, _]) hs) (by repeat first | exact At.head _ _ | apply At.tail)), rfl⟩)
                      )
                   ·skip
                    first
                     | (exfalso; first | omega | contradiction | (simp at *; done))
                     | (
                      refine SW.skip ?_
                      refine hK11 _ _ _ ?_
                      refine SW.seq_k fun K21 hK21 => ?_
                      refine SW.region _ _ _ _ ?_
                      refine RL.q (QV.vN T rfl rfl rfl rfl rfl (by exact (rfl : _ = [_, _, _, _, _, _, _, _, _, _, _]))) ?_
                      refine RL.s ?_
                      refine NV.sN T rfl rfl rfl (by exact (rfl : _ = [_, _, _, _, _, _, _, _, _, _, _])) (by exact (rfl : _ = [_, _, _, _, _, _, _, _, _, _, _])) ?_
                      refine RL.p T ?_
                      refine RL.nil _ _ _ _ ?_
                      refine hK21 _ _ _ ?_
                      refine SW.sat (fun hs => ?_)
                      refine SW.ret ?_
                      refine retQ.rk (RVs.cN T rfl rfl rfl rfl (by exact (rfl : _ = [_, _, _, _, _, _, _, _, _, _, _])) (RVs.t RVs.nil)) ?_
                      clear hK21 K21 hK19 K19 hK17 K17 hK15 K15 hK13 K13 hK12 K12 hK11 K11 hK8 K8 hK7 K7 hK6 K6 hK5 K5 hK4 K4 hK2 K2 hK1 K1 hK0 K0
                      have hdl : (es.drop 6).length = es.length - 6 := List.length_drop
                      first
                        | (rw [(oldE_form h6 (by omega)).1, (oldE_form h6 (by omega)).2]
                           first
                             | exact ⟨none, 0, 0, [_, _, _, _], rfl, rfl, Rd.nilS, rfl⟩)
                        | (rw [(oldE_less h6 (by omega) (by omega)).1, (oldE_less h6 (by omega) (by omega)).2]
                           first
                             | exact ⟨none, 0, 0, [_, _, _, _], rfl, rfl, Rd.nilS, rfl⟩)
                        | (rw [(oldE_more h6 (by omega) (by omega)).1, (oldE_more h6 (by omega) (by omega)).2]
                           first
                             | exact ⟨none, 0, 0, [_, _, _, _], rfl, rfl, Rd.nilS, rfl⟩)
                        | (rw [(oldE_chk h6 (by omega) (by omega) (by omega)).1, (oldE_chk h6 (by omega) (by omega) (by omega)).2]
                           first
                             | exact ⟨none, 0, 0, [_, _, _, _], rfl, rfl, Rd.nilS, rfl⟩)
                        | (have ho := oldE_ok h6 (by omega) (by omega) (by omega)
                           rw [ho.1, ho.2]
                           exact ⟨a1, _, c1, [_, _, _, _], rfl, rfl, (Rd.rowh (satl (G := [_, _, _, _]) hs) (by repeat first | exact At.head _ _ | apply At.tail)), rfl⟩)
                      )
                   )
                )
             )
          )
      ·skip
       refine SW.seq_k fun K22 hK22 => ?_
       refine SW.region _ _ _ _ ?_
       refine RL.p T ?_
       refine RL.nil _ _ _ _ ?_
       refine hK22 _ _ _ ?_
       refine SW.seq_k fun K23 hK23 => ?_
       refine SW.cs (fun hc6 => ?_) (fun hc6 => ?_)
       ·skip
        first
         | (exfalso; first | omega | contradiction | (simp at *; done))
         | (
          refine SW.skip ?_
          refine hK23 _ _ _ ?_
          refine SW.seq_k fun K24 hK24 => ?_
          refine SW.block ?_
          refine SW.seq_k fun K25 hK25 => ?_
          refine SW.region _ _ _ _ ?_
          refine RL.p T ?_
          refine RL.p T ?_
          refine RL.p T ?_
          refine RL.p T ?_
          refine RL.nil _ _ _ _ ?_
          refine hK25 _ _ _ ?_
          refine SW.region _ _ _ _ ?_
          refine RL.p T ?_
          refine RL.p T ?_
          refine RL.ix T ?_ (hR := fun hs => (by repeat first | exact hR | apply Rd.cons | apply Rd.app))
          refine RL.le T ?_ (hR := fun hs => (by repeat first | exact hR | apply Rd.cons | apply Rd.app)) (hv := map_as (z := bi es 0) (by omega) rfl)
          refine RL.p T ?_
          first | refine RL.q (QV.shrP rfl rfl rfl (by exact (rfl : _ = ((_ : Nat) : Int))) (by omega) rfl) ?_ | refine RL.q (QV.shift rfl rfl rfl (by omega) (.inr ⟨rfl, rfl⟩)) ?_
          refine RL.q (QV.and1b T rfl rfl rfl (by omega) (by omega)) ?_
          refine RL.p T ?_
          refine RL.p T ?_
          refine RL.s ?_
          first
            | refine NV.store_var1 T rfl rfl rfl rfl (by conv => lhs; whnf) rfl (by repeat first | exact At.head _ _ | assumption | exact At.put (by assumption) _ | apply At.tail | apply At.app) rfl rfl ?_
            | refine NV.store_var T rfl rfl rfl (by exact (rfl : _ = [_])) rfl rfl (by repeat first | exact At.head _ _ | assumption | exact At.put (by assumption) _ | apply At.tail | apply At.app) (Nat.le_of_ble_eq_true rfl) rfl ?_
            | refine NV.store_elem T rfl rfl rfl rfl (by conv => lhs; whnf) rfl (by repeat first | exact At.head _ _ | assumption | exact At.put (by assumption) _ | apply At.tail | apply At.app) (by omega) ?_
          refine RL.nil _ _ _ _ ?_
          refine hK24 _ _ _ ?_
          refine SW.region _ _ _ _ ?_
          first | refine RL.ar ?_ | refine RL.p T ?_
          refine RL.p T ?_
          refine RL.nil _ _ _ _ ?_
          exact ⟨5 - 2, (by omega), 2, _, (by rfl), by omega, (.consI rfl (by first | omega | rfl) (.nil (by repeat first | exact Mx.refl | exact Mx.mix | refine Mx.put rfl ?_ | refine Mx.upd rfl ?_ | refine Mx.updl rfl ?_ | refine Mx.fin rfl ?_ | refine Mx.inner rfl ?_ | refine Mx.none ?_))), rfl, rfl⟩
          )
       ·skip
        first
         | (exfalso; first | omega | contradiction | (simp at *; done))
         | (
          refine SW.exit ?_
          refine hK5 _ _ _ ?_
          refine SW.seq_k fun K26 hK26 => ?_
          refine SW.seq_k fun K27 hK27 => ?_
          refine SW.region _ _ _ _ ?_
          refine RL.p T ?_
          refine RL.ix T ?_ (hR := fun hs => (by repeat first | exact hR | apply Rd.cons | apply Rd.app))
          refine RL.le T ?_ (hR := fun hs => (by repeat first | exact hR | apply Rd.cons | apply Rd.app)) (hv := map_as (z := bi es 5) (by omega) rfl)
          first | refine RL.cv T ?_ | refine RL.p T ?_ | refine RL.ts T ?_
          refine RL.p T ?_
          refine RL.nil _ _ _ _ ?_
          refine hK27 _ _ _ ?_
          refine SW.block ?_
          refine SW.seq_k fun K28 hK28 => ?_
          refine SW.region _ _ _ _ ?_
          refine RL.p T ?_
          refine RL.ix T ?_ (hR := fun hs => (by repeat first | exact hR | apply Rd.cons | apply Rd.app))
          refine RL.le T ?_ (hR := fun hs => (by repeat first | exact hR | apply Rd.cons | apply Rd.app)) (hv := map_as (z := bi es 0) (by omega) rfl)
          first | refine RL.q (QV.shrP rfl rfl rfl (by exact (rfl : _ = ((_ : Nat) : Int))) (by omega) rfl) ?_ | refine RL.q (QV.shift rfl rfl rfl (by omega) (.inr ⟨rfl, rfl⟩)) ?_
          refine RL.p T ?_
          refine RL.p T ?_
          refine RL.nil _ _ _ _ ?_
          refine hK28 _ _ _ ?_
          refine SW.cs (fun hc7 => ?_) (fun hc7 => ?_)
          ·skip
           first
            | (exfalso; first | omega | contradiction | (simp at *; done))
            | (
             refine SW.seq_k fun K29 hK29 => ?_
             refine SW.region _ _ _ _ ?_
             refine RL.s ?_
             first | refine NV.buildc T rfl (rfl : _ = some [_, _, _, _, _, _, _, _, _, _, _]) ?_ | refine NV.buildz T rfl (rfl : _ = some [_, _, _, _, _, _, _, _, _, _, _]) ?_ | refine NV.pure T (rfl : _ = some (Value.agg #[_, _, _, _, _, _, _, _, _, _, _])) ?_
             refine RL.s ?_
             refine NV.sN T rfl rfl rfl (by exact (rfl : _ = [_, _, _, _, _, _, _, _, _, _, _])) (by exact (rfl : _ = [_, _, _, _, _, _, _, _, _, _, _])) ?_
             refine RL.p T ?_
             refine RL.nil _ _ _ _ ?_
             refine hK29 _ _ _ ?_
             refine SW.sat (fun hs => ?_)
             refine SW.ret ?_
             refine retQ.rk (RVs.cN T rfl rfl rfl rfl (by exact (rfl : _ = [_, _, _, _, _, _, _, _, _, _, _])) (RVs.t RVs.nil)) ?_
             clear hK29 K29 hK28 K28 hK27 K27 hK26 K26 hK23 K23 hK22 K22 hK6 K6 hK5 K5 hK4 K4 hK2 K2 hK1 K1 hK0 K0
             have hdl : (es.drop 6).length = es.length - 6 := List.length_drop
             first
               | (rw [(oldE_form h6 (by omega)).1, (oldE_form h6 (by omega)).2]
                  first
                    | exact ⟨none, 0, 0, [_, _, _, _], rfl, rfl, Rd.nilS, rfl⟩)
               | (rw [(oldE_less h6 (by omega) (by omega)).1, (oldE_less h6 (by omega) (by omega)).2]
                  first
                    | exact ⟨none, 0, 0, [_, _, _, _], rfl, rfl, Rd.nilS, rfl⟩)
               | (rw [(oldE_more h6 (by omega) (by omega)).1, (oldE_more h6 (by omega) (by omega)).2]
                  first
                    | exact ⟨none, 0, 0, [_, _, _, _], rfl, rfl, Rd.nilS, rfl⟩)
               | (rw [(oldE_chk h6 (by omega) (by omega) (by omega)).1, (oldE_chk h6 (by omega) (by omega) (by omega)).2]
                  first
                    | exact ⟨none, 0, 0, [_, _, _, _], rfl, rfl, Rd.nilS, rfl⟩)
               | (have ho := oldE_ok h6 (by omega) (by omega) (by omega)
                  rw [ho.1, ho.2]
                  exact ⟨a1, _, c1, [_, _, _, _], rfl, rfl, (Rd.rowh (satl (G := [_, _, _, _]) hs) (by repeat first | exact At.head _ _ | apply At.tail)), rfl⟩)
             )
          ·skip
           first
            | (exfalso; first | omega | contradiction | (simp at *; done))
            | (
             refine SW.seq_k fun K30 hK30 => ?_
             refine SW.region _ _ _ _ ?_
             refine RL.p T ?_
             refine RL.lv1 T ?_
             refine RL.p T ?_
             refine RL.p T ?_
             refine RL.p T ?_
             refine RL.p T ?_
             refine RL.nil _ _ _ _ ?_
             refine hK30 _ _ _ ?_
             refine SW.cs (fun hc8 => ?_) (fun hc8 => ?_)
             ·skip
              first
               | (exfalso; first | omega | contradiction | (simp at *; done))
               | (
                refine SW.seq_k fun K31 hK31 => ?_
                refine SW.region _ _ _ _ ?_
                refine RL.s ?_
                first | refine NV.buildc T rfl (rfl : _ = some [_, _, _, _, _, _, _, _, _, _, _]) ?_ | refine NV.buildz T rfl (rfl : _ = some [_, _, _, _, _, _, _, _, _, _, _]) ?_ | refine NV.pure T (rfl : _ = some (Value.agg #[_, _, _, _, _, _, _, _, _, _, _])) ?_
                refine RL.s ?_
                refine NV.sN T rfl rfl rfl (by exact (rfl : _ = [_, _, _, _, _, _, _, _, _, _, _])) (by exact (rfl : _ = [_, _, _, _, _, _, _, _, _, _, _])) ?_
                refine RL.p T ?_
                refine RL.nil _ _ _ _ ?_
                refine hK31 _ _ _ ?_
                refine SW.sat (fun hs => ?_)
                refine SW.ret ?_
                refine retQ.rk (RVs.cN T rfl rfl rfl rfl (by exact (rfl : _ = [_, _, _, _, _, _, _, _, _, _, _])) (RVs.t RVs.nil)) ?_
                clear hK31 K31 hK30 K30 hK28 K28 hK27 K27 hK26 K26 hK23 K23 hK22 K22 hK6 K6 hK5 K5 hK4 K4 hK2 K2 hK1 K1 hK0 K0
                have hdl : (es.drop 6).length = es.length - 6 := List.length_drop
                first
                  | (rw [(oldE_form h6 (by omega)).1, (oldE_form h6 (by omega)).2]
                     first
                       | exact ⟨none, 0, 0, [_, _, _, _], rfl, rfl, Rd.nilS, rfl⟩)
                  | (rw [(oldE_less h6 (by omega) (by omega)).1, (oldE_less h6 (by omega) (by omega)).2]
                     first
                       | exact ⟨none, 0, 0, [_, _, _, _], rfl, rfl, Rd.nilS, rfl⟩)
                  | (rw [(oldE_more h6 (by omega) (by omega)).1, (oldE_more h6 (by omega) (by omega)).2]
                     first
                       | exact ⟨none, 0, 0, [_, _, _, _], rfl, rfl, Rd.nilS, rfl⟩)
                  | (rw [(oldE_chk h6 (by omega) (by omega) (by omega)).1, (oldE_chk h6 (by omega) (by omega) (by omega)).2]
                     first
                       | exact ⟨none, 0, 0, [_, _, _, _], rfl, rfl, Rd.nilS, rfl⟩)
                  | (have ho := oldE_ok h6 (by omega) (by omega) (by omega)
                     rw [ho.1, ho.2]
                     exact ⟨a1, _, c1, [_, _, _, _], rfl, rfl, (Rd.rowh (satl (G := [_, _, _, _]) hs) (by repeat first | exact At.head _ _ | apply At.tail)), rfl⟩)
                )
             ·skip
              first
               | (exfalso; first | omega | contradiction | (simp at *; done))
               | (
                refine SW.seq_k fun K32 hK32 => ?_
                refine SW.region _ _ _ _ ?_
                refine RL.p T ?_
                refine RL.lv1 T ?_
                refine RL.p T ?_
                refine RL.p T ?_
                refine RL.p T ?_
                refine RL.p T ?_
                refine RL.nil _ _ _ _ ?_
                refine hK32 _ _ _ ?_
                refine SW.cs (fun hc9 => ?_) (fun hc9 => ?_)
                ·skip
                 first
                  | (exfalso; first | omega | contradiction | (simp at *; done))
                  | (
                   refine SW.seq_k fun K33 hK33 => ?_
                   refine SW.region _ _ _ _ ?_
                   refine RL.s ?_
                   first | refine NV.buildc T rfl (rfl : _ = some [_, _, _, _, _, _, _, _, _, _, _]) ?_ | refine NV.buildz T rfl (rfl : _ = some [_, _, _, _, _, _, _, _, _, _, _]) ?_ | refine NV.pure T (rfl : _ = some (Value.agg #[_, _, _, _, _, _, _, _, _, _, _])) ?_
                   refine RL.s ?_
                   refine NV.sN T rfl rfl rfl (by exact (rfl : _ = [_, _, _, _, _, _, _, _, _, _, _])) (by exact (rfl : _ = [_, _, _, _, _, _, _, _, _, _, _])) ?_
                   refine RL.p T ?_
                   refine RL.nil _ _ _ _ ?_
                   refine hK33 _ _ _ ?_
                   refine SW.sat (fun hs => ?_)
                   refine SW.ret ?_
                   refine retQ.rk (RVs.cN T rfl rfl rfl rfl (by exact (rfl : _ = [_, _, _, _, _, _, _, _, _, _, _])) (RVs.t RVs.nil)) ?_
                   clear hK33 K33 hK32 K32 hK30 K30 hK28 K28 hK27 K27 hK26 K26 hK23 K23 hK22 K22 hK6 K6 hK5 K5 hK4 K4 hK2 K2 hK1 K1 hK0 K0
                   have hdl : (es.drop 6).length = es.length - 6 := List.length_drop
                   first
                     | (rw [(oldE_form h6 (by omega)).1, (oldE_form h6 (by omega)).2]
                        first
                          | exact ⟨none, 0, 0, [_, _, _, _], rfl, rfl, Rd.nilS, rfl⟩)
                     | (rw [(oldE_less h6 (by omega) (by omega)).1, (oldE_less h6 (by omega) (by omega)).2]
                        first
                          | exact ⟨none, 0, 0, [_, _, _, _], rfl, rfl, Rd.nilS, rfl⟩)
                     | (rw [(oldE_more h6 (by omega) (by omega)).1, (oldE_more h6 (by omega) (by omega)).2]
                        first
                          | exact ⟨none, 0, 0, [_, _, _, _], rfl, rfl, Rd.nilS, rfl⟩)
                     | (rw [(oldE_chk h6 (by omega) (by omega) (by omega)).1, (oldE_chk h6 (by omega) (by omega) (by omega)).2]
                        first
                          | exact ⟨none, 0, 0, [_, _, _, _], rfl, rfl, Rd.nilS, rfl⟩)
                     | (have ho := oldE_ok h6 (by omega) (by omega) (by omega)
                        rw [ho.1, ho.2]
                        exact ⟨a1, _, c1, [_, _, _, _], rfl, rfl, (Rd.rowh (satl (G := [_, _, _, _]) hs) (by repeat first | exact At.head _ _ | apply At.tail)), rfl⟩)
                   )
                ·skip
                 first
                  | (exfalso; first | omega | contradiction | (simp at *; done))
                  | (
                   refine SW.seq_k fun K34 hK34 => ?_
                   refine SW.region _ _ _ _ ?_
                   refine RL.q (QV.vN T rfl rfl rfl rfl rfl (by exact (rfl : _ = [_, _, _, _, _, _, _, _, _, _, _]))) ?_
                   refine RL.c fun25 (fun hs => fcheck (oldF es) a1 (es.drop 6).length c1 (Rd.rowh hs (by repeat first | exact At.head _ _ | apply At.tail)) rfl (by rw [List.length_drop]; omega) (oldS_ok hB 5)) ?_
                   rintro _ _ ⟨rfl, e⟩; obtain rfl := e.symm
                   refine RL.p T ?_
                   refine RL.p T ?_
                   refine RL.nil _ _ _ _ ?_
                   refine hK34 _ _ _ ?_
                   refine SW.cs (fun hc10 => ?_) (fun hc10 => ?_)
                   ·skip
                    first
                     | (exfalso; first | omega | contradiction | (simp at *; done))
                     | (
                      refine SW.seq_k fun K35 hK35 => ?_
                      refine SW.region _ _ _ _ ?_
                      refine RL.s ?_
                      first | refine NV.buildc T rfl (rfl : _ = some [_, _, _, _, _, _, _, _, _, _, _]) ?_ | refine NV.buildz T rfl (rfl : _ = some [_, _, _, _, _, _, _, _, _, _, _]) ?_ | refine NV.pure T (rfl : _ = some (Value.agg #[_, _, _, _, _, _, _, _, _, _, _])) ?_
                      refine RL.s ?_
                      refine NV.sN T rfl rfl rfl (by exact (rfl : _ = [_, _, _, _, _, _, _, _, _, _, _])) (by exact (rfl : _ = [_, _, _, _, _, _, _, _, _, _, _])) ?_
                      refine RL.p T ?_
                      refine RL.nil _ _ _ _ ?_
                      refine hK35 _ _ _ ?_
                      refine SW.sat (fun hs => ?_)
                      refine SW.ret ?_
                      refine retQ.rk (RVs.cN T rfl rfl rfl rfl (by exact (rfl : _ = [_, _, _, _, _, _, _, _, _, _, _])) (RVs.t RVs.nil)) ?_
                      clear hK35 K35 hK34 K34 hK32 K32 hK30 K30 hK28 K28 hK27 K27 hK26 K26 hK23 K23 hK22 K22 hK6 K6 hK5 K5 hK4 K4 hK2 K2 hK1 K1 hK0 K0
                      have hdl : (es.drop 6).length = es.length - 6 := List.length_drop
                      first
                        | (rw [(oldE_form h6 (by omega)).1, (oldE_form h6 (by omega)).2]
                           first
                             | exact ⟨none, 0, 0, [_, _, _, _], rfl, rfl, Rd.nilS, rfl⟩)
                        | (rw [(oldE_less h6 (by omega) (by omega)).1, (oldE_less h6 (by omega) (by omega)).2]
                           first
                             | exact ⟨none, 0, 0, [_, _, _, _], rfl, rfl, Rd.nilS, rfl⟩)
                        | (rw [(oldE_more h6 (by omega) (by omega)).1, (oldE_more h6 (by omega) (by omega)).2]
                           first
                             | exact ⟨none, 0, 0, [_, _, _, _], rfl, rfl, Rd.nilS, rfl⟩)
                        | (rw [(oldE_chk h6 (by omega) (by omega) (by omega)).1, (oldE_chk h6 (by omega) (by omega) (by omega)).2]
                           first
                             | exact ⟨none, 0, 0, [_, _, _, _], rfl, rfl, Rd.nilS, rfl⟩)
                        | (have ho := oldE_ok h6 (by omega) (by omega) (by omega)
                           rw [ho.1, ho.2]
                           exact ⟨a1, _, c1, [_, _, _, _], rfl, rfl, (Rd.rowh (satl (G := [_, _, _, _]) hs) (by repeat first | exact At.head _ _ | apply At.tail)), rfl⟩)
                      )
                   ·skip
                    first
                     | (exfalso; first | omega | contradiction | (simp at *; done))
                     | (
                      refine SW.skip ?_
                      refine hK26 _ _ _ ?_
                      refine SW.seq_k fun K36 hK36 => ?_
                      refine SW.region _ _ _ _ ?_
                      refine RL.q (QV.vN T rfl rfl rfl rfl rfl (by exact (rfl : _ = [_, _, _, _, _, _, _, _, _, _, _]))) ?_
                      refine RL.s ?_
                      refine NV.sN T rfl rfl rfl (by exact (rfl : _ = [_, _, _, _, _, _, _, _, _, _, _])) (by exact (rfl : _ = [_, _, _, _, _, _, _, _, _, _, _])) ?_
                      refine RL.p T ?_
                      refine RL.nil _ _ _ _ ?_
                      refine hK36 _ _ _ ?_
                      refine SW.sat (fun hs => ?_)
                      refine SW.ret ?_
                      refine retQ.rk (RVs.cN T rfl rfl rfl rfl (by exact (rfl : _ = [_, _, _, _, _, _, _, _, _, _, _])) (RVs.t RVs.nil)) ?_
                      clear hK36 K36 hK34 K34 hK32 K32 hK30 K30 hK28 K28 hK27 K27 hK26 K26 hK23 K23 hK22 K22 hK6 K6 hK5 K5 hK4 K4 hK2 K2 hK1 K1 hK0 K0
                      have hdl : (es.drop 6).length = es.length - 6 := List.length_drop
                      first
                        | (rw [(oldE_form h6 (by omega)).1, (oldE_form h6 (by omega)).2]
                           first
                             | exact ⟨none, 0, 0, [_, _, _, _], rfl, rfl, Rd.nilS, rfl⟩)
                        | (rw [(oldE_less h6 (by omega) (by omega)).1, (oldE_less h6 (by omega) (by omega)).2]
                           first
                             | exact ⟨none, 0, 0, [_, _, _, _], rfl, rfl, Rd.nilS, rfl⟩)
                        | (rw [(oldE_more h6 (by omega) (by omega)).1, (oldE_more h6 (by omega) (by omega)).2]
                           first
                             | exact ⟨none, 0, 0, [_, _, _, _], rfl, rfl, Rd.nilS, rfl⟩)
                        | (rw [(oldE_chk h6 (by omega) (by omega) (by omega)).1, (oldE_chk h6 (by omega) (by omega) (by omega)).2]
                           first
                             | exact ⟨none, 0, 0, [_, _, _, _], rfl, rfl, Rd.nilS, rfl⟩)
                        | (have ho := oldE_ok h6 (by omega) (by omega) (by omega)
                           rw [ho.1, ho.2]
                           exact ⟨a1, _, c1, [_, _, _, _], rfl, rfl, (Rd.rowh (satl (G := [_, _, _, _]) hs) (by repeat first | exact At.head _ _ | apply At.tail)), rfl⟩)
                      )
                   )
                )
             )
          )
      ·skip
       refine SW.seq_k fun K37 hK37 => ?_
       refine SW.region _ _ _ _ ?_
       refine RL.p T ?_
       refine RL.nil _ _ _ _ ?_
       refine hK37 _ _ _ ?_
       refine SW.seq_k fun K38 hK38 => ?_
       refine SW.cs (fun hc11 => ?_) (fun hc11 => ?_)
       ·skip
        first
         | (exfalso; first | omega | contradiction | (simp at *; done))
         | (
          refine SW.skip ?_
          refine hK38 _ _ _ ?_
          refine SW.seq_k fun K39 hK39 => ?_
          refine SW.block ?_
          refine SW.seq_k fun K40 hK40 => ?_
          refine SW.region _ _ _ _ ?_
          refine RL.p T ?_
          refine RL.p T ?_
          refine RL.p T ?_
          refine RL.p T ?_
          refine RL.nil _ _ _ _ ?_
          refine hK40 _ _ _ ?_
          refine SW.region _ _ _ _ ?_
          refine RL.p T ?_
          refine RL.p T ?_
          refine RL.ix T ?_ (hR := fun hs => (by repeat first | exact hR | apply Rd.cons | apply Rd.app))
          refine RL.le T ?_ (hR := fun hs => (by repeat first | exact hR | apply Rd.cons | apply Rd.app)) (hv := map_as (z := bi es 0) (by omega) rfl)
          refine RL.p T ?_
          first | refine RL.q (QV.shrP rfl rfl rfl (by exact (rfl : _ = ((_ : Nat) : Int))) (by omega) rfl) ?_ | refine RL.q (QV.shift rfl rfl rfl (by omega) (.inr ⟨rfl, rfl⟩)) ?_
          refine RL.q (QV.and1b T rfl rfl rfl (by omega) (by omega)) ?_
          refine RL.p T ?_
          refine RL.p T ?_
          refine RL.s ?_
          first
            | refine NV.store_var1 T rfl rfl rfl rfl (by conv => lhs; whnf) rfl (by repeat first | exact At.head _ _ | assumption | exact At.put (by assumption) _ | apply At.tail | apply At.app) rfl rfl ?_
            | refine NV.store_var T rfl rfl rfl (by exact (rfl : _ = [_])) rfl rfl (by repeat first | exact At.head _ _ | assumption | exact At.put (by assumption) _ | apply At.tail | apply At.app) (Nat.le_of_ble_eq_true rfl) rfl ?_
            | refine NV.store_elem T rfl rfl rfl rfl (by conv => lhs; whnf) rfl (by repeat first | exact At.head _ _ | assumption | exact At.put (by assumption) _ | apply At.tail | apply At.app) (by omega) ?_
          refine RL.nil _ _ _ _ ?_
          refine hK39 _ _ _ ?_
          refine SW.region _ _ _ _ ?_
          first | refine RL.ar ?_ | refine RL.p T ?_
          refine RL.p T ?_
          refine RL.nil _ _ _ _ ?_
          exact ⟨5 - 3, (by omega), 3, _, (by rfl), by omega, (.consI rfl (by first | omega | rfl) (.nil (by repeat first | exact Mx.refl | exact Mx.mix | refine Mx.put rfl ?_ | refine Mx.upd rfl ?_ | refine Mx.updl rfl ?_ | refine Mx.fin rfl ?_ | refine Mx.inner rfl ?_ | refine Mx.none ?_))), rfl, rfl⟩
          )
       ·skip
        first
         | (exfalso; first | omega | contradiction | (simp at *; done))
         | (
          refine SW.exit ?_
          refine hK5 _ _ _ ?_
          refine SW.seq_k fun K41 hK41 => ?_
          refine SW.seq_k fun K42 hK42 => ?_
          refine SW.region _ _ _ _ ?_
          refine RL.p T ?_
          refine RL.ix T ?_ (hR := fun hs => (by repeat first | exact hR | apply Rd.cons | apply Rd.app))
          refine RL.le T ?_ (hR := fun hs => (by repeat first | exact hR | apply Rd.cons | apply Rd.app)) (hv := map_as (z := bi es 5) (by omega) rfl)
          first | refine RL.cv T ?_ | refine RL.p T ?_ | refine RL.ts T ?_
          refine RL.p T ?_
          refine RL.nil _ _ _ _ ?_
          refine hK42 _ _ _ ?_
          refine SW.block ?_
          refine SW.seq_k fun K43 hK43 => ?_
          refine SW.region _ _ _ _ ?_
          refine RL.p T ?_
          refine RL.ix T ?_ (hR := fun hs => (by repeat first | exact hR | apply Rd.cons | apply Rd.app))
          refine RL.le T ?_ (hR := fun hs => (by repeat first | exact hR | apply Rd.cons | apply Rd.app)) (hv := map_as (z := bi es 0) (by omega) rfl)
          first | refine RL.q (QV.shrP rfl rfl rfl (by exact (rfl : _ = ((_ : Nat) : Int))) (by omega) rfl) ?_ | refine RL.q (QV.shift rfl rfl rfl (by omega) (.inr ⟨rfl, rfl⟩)) ?_
          refine RL.p T ?_
          refine RL.p T ?_
          refine RL.nil _ _ _ _ ?_
          refine hK43 _ _ _ ?_
          refine SW.cs (fun hc12 => ?_) (fun hc12 => ?_)
          ·skip
           first
            | (exfalso; first | omega | contradiction | (simp at *; done))
            | (
             refine SW.seq_k fun K44 hK44 => ?_
             refine SW.region _ _ _ _ ?_
             refine RL.s ?_
             first | refine NV.buildc T rfl (rfl : _ = some [_, _, _, _, _, _, _, _, _, _, _]) ?_ | refine NV.buildz T rfl (rfl : _ = some [_, _, _, _, _, _, _, _, _, _, _]) ?_ | refine NV.pure T (rfl : _ = some (Value.agg #[_, _, _, _, _, _, _, _, _, _, _])) ?_
             refine RL.s ?_
             refine NV.sN T rfl rfl rfl (by exact (rfl : _ = [_, _, _, _, _, _, _, _, _, _, _])) (by exact (rfl : _ = [_, _, _, _, _, _, _, _, _, _, _])) ?_
             refine RL.p T ?_
             refine RL.nil _ _ _ _ ?_
             refine hK44 _ _ _ ?_
             refine SW.sat (fun hs => ?_)
             refine SW.ret ?_
             refine retQ.rk (RVs.cN T rfl rfl rfl rfl (by exact (rfl : _ = [_, _, _, _, _, _, _, _, _, _, _])) (RVs.t RVs.nil)) ?_
             clear hK44 K44 hK43 K43 hK42 K42 hK41 K41 hK38 K38 hK37 K37 hK6 K6 hK5 K5 hK4 K4 hK2 K2 hK1 K1 hK0 K0
             have hdl : (es.drop 6).length = es.length - 6 := List.length_drop
             first
               | (rw [(oldE_form h6 (by omega)).1, (oldE_form h6 (by omega)).2]
                  first
                    | exact ⟨none, 0, 0, [_, _, _, _], rfl, rfl, Rd.nilS, rfl⟩)
               | (rw [(oldE_less h6 (by omega) (by omega)).1, (oldE_less h6 (by omega) (by omega)).2]
                  first
                    | exact ⟨none, 0, 0, [_, _, _, _], rfl, rfl, Rd.nilS, rfl⟩)
               | (rw [(oldE_more h6 (by omega) (by omega)).1, (oldE_more h6 (by omega) (by omega)).2]
                  first
                    | exact ⟨none, 0, 0, [_, _, _, _], rfl, rfl, Rd.nilS, rfl⟩)
               | (rw [(oldE_chk h6 (by omega) (by omega) (by omega)).1, (oldE_chk h6 (by omega) (by omega) (by omega)).2]
                  first
                    | exact ⟨none, 0, 0, [_, _, _, _], rfl, rfl, Rd.nilS, rfl⟩)
               | (have ho := oldE_ok h6 (by omega) (by omega) (by omega)
                  rw [ho.1, ho.2]
                  exact ⟨a1, _, c1, [_, _, _, _], rfl, rfl, (Rd.rowh (satl (G := [_, _, _, _]) hs) (by repeat first | exact At.head _ _ | apply At.tail)), rfl⟩)
             )
          ·skip
           first
            | (exfalso; first | omega | contradiction | (simp at *; done))
            | (
             refine SW.seq_k fun K45 hK45 => ?_
             refine SW.region _ _ _ _ ?_
             refine RL.p T ?_
             refine RL.lv1 T ?_
             refine RL.p T ?_
             refine RL.p T ?_
             refine RL.p T ?_
             refine RL.p T ?_
             refine RL.nil _ _ _ _ ?_
             refine hK45 _ _ _ ?_
             refine SW.cs (fun hc13 => ?_) (fun hc13 => ?_)
             ·skip
              first
               | (exfalso; first | omega | contradiction | (simp at *; done))
               | (
                refine SW.seq_k fun K46 hK46 => ?_
                refine SW.region _ _ _ _ ?_
                refine RL.s ?_
                first | refine NV.buildc T rfl (rfl : _ = some [_, _, _, _, _, _, _, _, _, _, _]) ?_ | refine NV.buildz T rfl (rfl : _ = some [_, _, _, _, _, _, _, _, _, _, _]) ?_ | refine NV.pure T (rfl : _ = some (Value.agg #[_, _, _, _, _, _, _, _, _, _, _])) ?_
                refine RL.s ?_
                refine NV.sN T rfl rfl rfl (by exact (rfl : _ = [_, _, _, _, _, _, _, _, _, _, _])) (by exact (rfl : _ = [_, _, _, _, _, _, _, _, _, _, _])) ?_
                refine RL.p T ?_
                refine RL.nil _ _ _ _ ?_
                refine hK46 _ _ _ ?_
                refine SW.sat (fun hs => ?_)
                refine SW.ret ?_
                refine retQ.rk (RVs.cN T rfl rfl rfl rfl (by exact (rfl : _ = [_, _, _, _, _, _, _, _, _, _, _])) (RVs.t RVs.nil)) ?_
                clear hK46 K46 hK45 K45 hK43 K43 hK42 K42 hK41 K41 hK38 K38 hK37 K37 hK6 K6 hK5 K5 hK4 K4 hK2 K2 hK1 K1 hK0 K0
                have hdl : (es.drop 6).length = es.length - 6 := List.length_drop
                first
                  | (rw [(oldE_form h6 (by omega)).1, (oldE_form h6 (by omega)).2]
                     first
                       | exact ⟨none, 0, 0, [_, _, _, _], rfl, rfl, Rd.nilS, rfl⟩)
                  | (rw [(oldE_less h6 (by omega) (by omega)).1, (oldE_less h6 (by omega) (by omega)).2]
                     first
                       | exact ⟨none, 0, 0, [_, _, _, _], rfl, rfl, Rd.nilS, rfl⟩)
                  | (rw [(oldE_more h6 (by omega) (by omega)).1, (oldE_more h6 (by omega) (by omega)).2]
                     first
                       | exact ⟨none, 0, 0, [_, _, _, _], rfl, rfl, Rd.nilS, rfl⟩)
                  | (rw [(oldE_chk h6 (by omega) (by omega) (by omega)).1, (oldE_chk h6 (by omega) (by omega) (by omega)).2]
                     first
                       | exact ⟨none, 0, 0, [_, _, _, _], rfl, rfl, Rd.nilS, rfl⟩)
                  | (have ho := oldE_ok h6 (by omega) (by omega) (by omega)
                     rw [ho.1, ho.2]
                     exact ⟨a1, _, c1, [_, _, _, _], rfl, rfl, (Rd.rowh (satl (G := [_, _, _, _]) hs) (by repeat first | exact At.head _ _ | apply At.tail)), rfl⟩)
                )
             ·skip
              first
               | (exfalso; first | omega | contradiction | (simp at *; done))
               | (
                refine SW.seq_k fun K47 hK47 => ?_
                refine SW.region _ _ _ _ ?_
                refine RL.p T ?_
                refine RL.lv1 T ?_
                refine RL.p T ?_
                refine RL.p T ?_
                refine RL.p T ?_
                refine RL.p T ?_
                refine RL.nil _ _ _ _ ?_
                refine hK47 _ _ _ ?_
                refine SW.cs (fun hc14 => ?_) (fun hc14 => ?_)
                ·skip
                 first
                  | (exfalso; first | omega | contradiction | (simp at *; done))
                  | (
                   refine SW.seq_k fun K48 hK48 => ?_
                   refine SW.region _ _ _ _ ?_
                   refine RL.s ?_
                   first | refine NV.buildc T rfl (rfl : _ = some [_, _, _, _, _, _, _, _, _, _, _]) ?_ | refine NV.buildz T rfl (rfl : _ = some [_, _, _, _, _, _, _, _, _, _, _]) ?_ | refine NV.pure T (rfl : _ = some (Value.agg #[_, _, _, _, _, _, _, _, _, _, _])) ?_
                   refine RL.s ?_
                   refine NV.sN T rfl rfl rfl (by exact (rfl : _ = [_, _, _, _, _, _, _, _, _, _, _])) (by exact (rfl : _ = [_, _, _, _, _, _, _, _, _, _, _])) ?_
                   refine RL.p T ?_
                   refine RL.nil _ _ _ _ ?_
                   refine hK48 _ _ _ ?_
                   refine SW.sat (fun hs => ?_)
                   refine SW.ret ?_
                   refine retQ.rk (RVs.cN T rfl rfl rfl rfl (by exact (rfl : _ = [_, _, _, _, _, _, _, _, _, _, _])) (RVs.t RVs.nil)) ?_
                   clear hK48 K48 hK47 K47 hK45 K45 hK43 K43 hK42 K42 hK41 K41 hK38 K38 hK37 K37 hK6 K6 hK5 K5 hK4 K4 hK2 K2 hK1 K1 hK0 K0
                   have hdl : (es.drop 6).length = es.length - 6 := List.length_drop
                   first
                     | (rw [(oldE_form h6 (by omega)).1, (oldE_form h6 (by omega)).2]
                        first
                          | exact ⟨none, 0, 0, [_, _, _, _], rfl, rfl, Rd.nilS, rfl⟩)
                     | (rw [(oldE_less h6 (by omega) (by omega)).1, (oldE_less h6 (by omega) (by omega)).2]
                        first
                          | exact ⟨none, 0, 0, [_, _, _, _], rfl, rfl, Rd.nilS, rfl⟩)
                     | (rw [(oldE_more h6 (by omega) (by omega)).1, (oldE_more h6 (by omega) (by omega)).2]
                        first
                          | exact ⟨none, 0, 0, [_, _, _, _], rfl, rfl, Rd.nilS, rfl⟩)
                     | (rw [(oldE_chk h6 (by omega) (by omega) (by omega)).1, (oldE_chk h6 (by omega) (by omega) (by omega)).2]
                        first
                          | exact ⟨none, 0, 0, [_, _, _, _], rfl, rfl, Rd.nilS, rfl⟩)
                     | (have ho := oldE_ok h6 (by omega) (by omega) (by omega)
                        rw [ho.1, ho.2]
                        exact ⟨a1, _, c1, [_, _, _, _], rfl, rfl, (Rd.rowh (satl (G := [_, _, _, _]) hs) (by repeat first | exact At.head _ _ | apply At.tail)), rfl⟩)
                   )
                ·skip
                 first
                  | (exfalso; first | omega | contradiction | (simp at *; done))
                  | (
                   refine SW.seq_k fun K49 hK49 => ?_
                   refine SW.region _ _ _ _ ?_
                   refine RL.q (QV.vN T rfl rfl rfl rfl rfl (by exact (rfl : _ = [_, _, _, _, _, _, _, _, _, _, _]))) ?_
                   refine RL.c fun25 (fun hs => fcheck (oldF es) a1 (es.drop 6).length c1 (Rd.rowh hs (by repeat first | exact At.head _ _ | apply At.tail)) rfl (by rw [List.length_drop]; omega) (oldS_ok hB 5)) ?_
                   rintro _ _ ⟨rfl, e⟩; obtain rfl := e.symm
                   refine RL.p T ?_
                   refine RL.p T ?_
                   refine RL.nil _ _ _ _ ?_
                   refine hK49 _ _ _ ?_
                   refine SW.cs (fun hc15 => ?_) (fun hc15 => ?_)
                   ·skip
                    first
                     | (exfalso; first | omega | contradiction | (simp at *; done))
                     | (
                      refine SW.seq_k fun K50 hK50 => ?_
                      refine SW.region _ _ _ _ ?_
                      refine RL.s ?_
                      first | refine NV.buildc T rfl (rfl : _ = some [_, _, _, _, _, _, _, _, _, _, _]) ?_ | refine NV.buildz T rfl (rfl : _ = some [_, _, _, _, _, _, _, _, _, _, _]) ?_ | refine NV.pure T (rfl : _ = some (Value.agg #[_, _, _, _, _, _, _, _, _, _, _])) ?_
                      refine RL.s ?_
                      refine NV.sN T rfl rfl rfl (by exact (rfl : _ = [_, _, _, _, _, _, _, _, _, _, _])) (by exact (rfl : _ = [_, _, _, _, _, _, _, _, _, _, _])) ?_
                      refine RL.p T ?_
                      refine RL.nil _ _ _ _ ?_
                      refine hK50 _ _ _ ?_
                      refine SW.sat (fun hs => ?_)
                      refine SW.ret ?_
                      refine retQ.rk (RVs.cN T rfl rfl rfl rfl (by exact (rfl : _ = [_, _, _, _, _, _, _, _, _, _, _])) (RVs.t RVs.nil)) ?_
                      clear hK50 K50 hK49 K49 hK47 K47 hK45 K45 hK43 K43 hK42 K42 hK41 K41 hK38 K38 hK37 K37 hK6 K6 hK5 K5 hK4 K4 hK2 K2 hK1 K1 hK0 K0
                      have hdl : (es.drop 6).length = es.length - 6 := List.length_drop
                      first
                        | (rw [(oldE_form h6 (by omega)).1, (oldE_form h6 (by omega)).2]
                           first
                             | exact ⟨none, 0, 0, [_, _, _, _], rfl, rfl, Rd.nilS, rfl⟩)
                        | (rw [(oldE_less h6 (by omega) (by omega)).1, (oldE_less h6 (by omega) (by omega)).2]
                           first
                             | exact ⟨none, 0, 0, [_, _, _, _], rfl, rfl, Rd.nilS, rfl⟩)
                        | (rw [(oldE_more h6 (by omega) (by omega)).1, (oldE_more h6 (by omega) (by omega)).2]
                           first
                             | exact ⟨none, 0, 0, [_, _, _, _], rfl, rfl, Rd.nilS, rfl⟩)
                        | (rw [(oldE_chk h6 (by omega) (by omega) (by omega)).1, (oldE_chk h6 (by omega) (by omega) (by omega)).2]
                           first
                             | exact ⟨none, 0, 0, [_, _, _, _], rfl, rfl, Rd.nilS, rfl⟩)
                        | (have ho := oldE_ok h6 (by omega) (by omega) (by omega)
                           rw [ho.1, ho.2]
                           exact ⟨a1, _, c1, [_, _, _, _], rfl, rfl, (Rd.rowh (satl (G := [_, _, _, _]) hs) (by repeat first | exact At.head _ _ | apply At.tail)), rfl⟩)
                      )
                   ·skip
                    first
                     | (exfalso; first | omega | contradiction | (simp at *; done))
                     | (
                      refine SW.skip ?_
                      refine hK41 _ _ _ ?_
                      refine SW.seq_k fun K51 hK51 => ?_
                      refine SW.region _ _ _ _ ?_
                      refine RL.q (QV.vN T rfl rfl rfl rfl rfl (by exact (rfl : _ = [_, _, _, _, _, _, _, _, _, _, _]))) ?_
                      refine RL.s ?_
                      refine NV.sN T rfl rfl rfl (by exact (rfl : _ = [_, _, _, _, _, _, _, _, _, _, _])) (by exact (rfl : _ = [_, _, _, _, _, _, _, _, _, _, _])) ?_
                      refine RL.p T ?_
                      refine RL.nil _ _ _ _ ?_
                      refine hK51 _ _ _ ?_
                      refine SW.sat (fun hs => ?_)
                      refine SW.ret ?_
                      refine retQ.rk (RVs.cN T rfl rfl rfl rfl (by exact (rfl : _ = [_, _, _, _, _, _, _, _, _, _, _])) (RVs.t RVs.nil)) ?_
                      clear hK51 K51 hK49 K49 hK47 K47 hK45 K45 hK43 K43 hK42 K42 hK41 K41 hK38 K38 hK37 K37 hK6 K6 hK5 K5 hK4 K4 hK2 K2 hK1 K1 hK0 K0
                      have hdl : (es.drop 6).length = es.length - 6 := List.length_drop
                      first
                        | (rw [(oldE_form h6 (by omega)).1, (oldE_form h6 (by omega)).2]
                           first
                             | exact ⟨none, 0, 0, [_, _, _, _], rfl, rfl, Rd.nilS, rfl⟩)
                        | (rw [(oldE_less h6 (by omega) (by omega)).1, (oldE_less h6 (by omega) (by omega)).2]
                           first
                             | exact ⟨none, 0, 0, [_, _, _, _], rfl, rfl, Rd.nilS, rfl⟩)
                        | (rw [(oldE_more h6 (by omega) (by omega)).1, (oldE_more h6 (by omega) (by omega)).2]
                           first
                             | exact ⟨none, 0, 0, [_, _, _, _], rfl, rfl, Rd.nilS, rfl⟩)
                        | (rw [(oldE_chk h6 (by omega) (by omega) (by omega)).1, (oldE_chk h6 (by omega) (by omega) (by omega)).2]
                           first
                             | exact ⟨none, 0, 0, [_, _, _, _], rfl, rfl, Rd.nilS, rfl⟩)
                        | (have ho := oldE_ok h6 (by omega) (by omega) (by omega)
                           rw [ho.1, ho.2]
                           exact ⟨a1, _, c1, [_, _, _, _], rfl, rfl, (Rd.rowh (satl (G := [_, _, _, _]) hs) (by repeat first | exact At.head _ _ | apply At.tail)), rfl⟩)
                      )
                   )
                )
             )
          )
      ·skip
       refine SW.seq_k fun K52 hK52 => ?_
       refine SW.region _ _ _ _ ?_
       refine RL.p T ?_
       refine RL.nil _ _ _ _ ?_
       refine hK52 _ _ _ ?_
       refine SW.seq_k fun K53 hK53 => ?_
       refine SW.cs (fun hc16 => ?_) (fun hc16 => ?_)
       ·skip
        first
         | (exfalso; first | omega | contradiction | (simp at *; done))
         | (
          refine SW.skip ?_
          refine hK53 _ _ _ ?_
          refine SW.seq_k fun K54 hK54 => ?_
          refine SW.block ?_
          refine SW.seq_k fun K55 hK55 => ?_
          refine SW.region _ _ _ _ ?_
          refine RL.p T ?_
          refine RL.p T ?_
          refine RL.p T ?_
          refine RL.p T ?_
          refine RL.nil _ _ _ _ ?_
          refine hK55 _ _ _ ?_
          refine SW.region _ _ _ _ ?_
          refine RL.p T ?_
          refine RL.p T ?_
          refine RL.ix T ?_ (hR := fun hs => (by repeat first | exact hR | apply Rd.cons | apply Rd.app))
          refine RL.le T ?_ (hR := fun hs => (by repeat first | exact hR | apply Rd.cons | apply Rd.app)) (hv := map_as (z := bi es 0) (by omega) rfl)
          refine RL.p T ?_
          first | refine RL.q (QV.shrP rfl rfl rfl (by exact (rfl : _ = ((_ : Nat) : Int))) (by omega) rfl) ?_ | refine RL.q (QV.shift rfl rfl rfl (by omega) (.inr ⟨rfl, rfl⟩)) ?_
          refine RL.q (QV.and1b T rfl rfl rfl (by omega) (by omega)) ?_
          refine RL.p T ?_
          refine RL.p T ?_
          refine RL.s ?_
          first
            | refine NV.store_var1 T rfl rfl rfl rfl (by conv => lhs; whnf) rfl (by repeat first | exact At.head _ _ | assumption | exact At.put (by assumption) _ | apply At.tail | apply At.app) rfl rfl ?_
            | refine NV.store_var T rfl rfl rfl (by exact (rfl : _ = [_])) rfl rfl (by repeat first | exact At.head _ _ | assumption | exact At.put (by assumption) _ | apply At.tail | apply At.app) (Nat.le_of_ble_eq_true rfl) rfl ?_
            | refine NV.store_elem T rfl rfl rfl rfl (by conv => lhs; whnf) rfl (by repeat first | exact At.head _ _ | assumption | exact At.put (by assumption) _ | apply At.tail | apply At.app) (by omega) ?_
          refine RL.nil _ _ _ _ ?_
          refine hK54 _ _ _ ?_
          refine SW.region _ _ _ _ ?_
          first | refine RL.ar ?_ | refine RL.p T ?_
          refine RL.p T ?_
          refine RL.nil _ _ _ _ ?_
          exact ⟨5 - 4, (by omega), 4, _, (by rfl), by omega, (.consI rfl (by first | omega | rfl) (.nil (by repeat first | exact Mx.refl | exact Mx.mix | refine Mx.put rfl ?_ | refine Mx.upd rfl ?_ | refine Mx.updl rfl ?_ | refine Mx.fin rfl ?_ | refine Mx.inner rfl ?_ | refine Mx.none ?_))), rfl, rfl⟩
          )
       ·skip
        first
         | (exfalso; first | omega | contradiction | (simp at *; done))
         | (
          refine SW.exit ?_
          refine hK5 _ _ _ ?_
          refine SW.seq_k fun K56 hK56 => ?_
          refine SW.seq_k fun K57 hK57 => ?_
          refine SW.region _ _ _ _ ?_
          refine RL.p T ?_
          refine RL.ix T ?_ (hR := fun hs => (by repeat first | exact hR | apply Rd.cons | apply Rd.app))
          refine RL.le T ?_ (hR := fun hs => (by repeat first | exact hR | apply Rd.cons | apply Rd.app)) (hv := map_as (z := bi es 5) (by omega) rfl)
          first | refine RL.cv T ?_ | refine RL.p T ?_ | refine RL.ts T ?_
          refine RL.p T ?_
          refine RL.nil _ _ _ _ ?_
          refine hK57 _ _ _ ?_
          refine SW.block ?_
          refine SW.seq_k fun K58 hK58 => ?_
          refine SW.region _ _ _ _ ?_
          refine RL.p T ?_
          refine RL.ix T ?_ (hR := fun hs => (by repeat first | exact hR | apply Rd.cons | apply Rd.app))
          refine RL.le T ?_ (hR := fun hs => (by repeat first | exact hR | apply Rd.cons | apply Rd.app)) (hv := map_as (z := bi es 0) (by omega) rfl)
          first | refine RL.q (QV.shrP rfl rfl rfl (by exact (rfl : _ = ((_ : Nat) : Int))) (by omega) rfl) ?_ | refine RL.q (QV.shift rfl rfl rfl (by omega) (.inr ⟨rfl, rfl⟩)) ?_
          refine RL.p T ?_
          refine RL.p T ?_
          refine RL.nil _ _ _ _ ?_
          refine hK58 _ _ _ ?_
          refine SW.cs (fun hc17 => ?_) (fun hc17 => ?_)
          ·skip
           first
            | (exfalso; first | omega | contradiction | (simp at *; done))
            | (
             refine SW.seq_k fun K59 hK59 => ?_
             refine SW.region _ _ _ _ ?_
             refine RL.s ?_
             first | refine NV.buildc T rfl (rfl : _ = some [_, _, _, _, _, _, _, _, _, _, _]) ?_ | refine NV.buildz T rfl (rfl : _ = some [_, _, _, _, _, _, _, _, _, _, _]) ?_ | refine NV.pure T (rfl : _ = some (Value.agg #[_, _, _, _, _, _, _, _, _, _, _])) ?_
             refine RL.s ?_
             refine NV.sN T rfl rfl rfl (by exact (rfl : _ = [_, _, _, _, _, _, _, _, _, _, _])) (by exact (rfl : _ = [_, _, _, _, _, _, _, _, _, _, _])) ?_
             refine RL.p T ?_
             refine RL.nil _ _ _ _ ?_
             refine hK59 _ _ _ ?_
             refine SW.sat (fun hs => ?_)
             refine SW.ret ?_
             refine retQ.rk (RVs.cN T rfl rfl rfl rfl (by exact (rfl : _ = [_, _, _, _, _, _, _, _, _, _, _])) (RVs.t RVs.nil)) ?_
             clear hK59 K59 hK58 K58 hK57 K57 hK56 K56 hK53 K53 hK52 K52 hK6 K6 hK5 K5 hK4 K4 hK2 K2 hK1 K1 hK0 K0
             have hdl : (es.drop 6).length = es.length - 6 := List.length_drop
             first
               | (rw [(oldE_form h6 (by omega)).1, (oldE_form h6 (by omega)).2]
                  first
                    | exact ⟨none, 0, 0, [_, _, _, _], rfl, rfl, Rd.nilS, rfl⟩)
               | (rw [(oldE_less h6 (by omega) (by omega)).1, (oldE_less h6 (by omega) (by omega)).2]
                  first
                    | exact ⟨none, 0, 0, [_, _, _, _], rfl, rfl, Rd.nilS, rfl⟩)
               | (rw [(oldE_more h6 (by omega) (by omega)).1, (oldE_more h6 (by omega) (by omega)).2]
                  first
                    | exact ⟨none, 0, 0, [_, _, _, _], rfl, rfl, Rd.nilS, rfl⟩)
               | (rw [(oldE_chk h6 (by omega) (by omega) (by omega)).1, (oldE_chk h6 (by omega) (by omega) (by omega)).2]
                  first
                    | exact ⟨none, 0, 0, [_, _, _, _], rfl, rfl, Rd.nilS, rfl⟩)
               | (have ho := oldE_ok h6 (by omega) (by omega) (by omega)
                  rw [ho.1, ho.2]
                  exact ⟨a1, _, c1, [_, _, _, _], rfl, rfl, (Rd.rowh (satl (G := [_, _, _, _]) hs) (by repeat first | exact At.head _ _ | apply At.tail)), rfl⟩)
             )
          ·skip
           first
            | (exfalso; first | omega | contradiction | (simp at *; done))
            | (
             refine SW.seq_k fun K60 hK60 => ?_
             refine SW.region _ _ _ _ ?_
             refine RL.p T ?_
             refine RL.lv1 T ?_
             refine RL.p T ?_
             refine RL.p T ?_
             refine RL.p T ?_
             refine RL.p T ?_
             refine RL.nil _ _ _ _ ?_
             refine hK60 _ _ _ ?_
             refine SW.cs (fun hc18 => ?_) (fun hc18 => ?_)
             ·skip
              first
               | (exfalso; first | omega | contradiction | (simp at *; done))
               | (
                refine SW.seq_k fun K61 hK61 => ?_
                refine SW.region _ _ _ _ ?_
                refine RL.s ?_
                first | refine NV.buildc T rfl (rfl : _ = some [_, _, _, _, _, _, _, _, _, _, _]) ?_ | refine NV.buildz T rfl (rfl : _ = some [_, _, _, _, _, _, _, _, _, _, _]) ?_ | refine NV.pure T (rfl : _ = some (Value.agg #[_, _, _, _, _, _, _, _, _, _, _])) ?_
                refine RL.s ?_
                refine NV.sN T rfl rfl rfl (by exact (rfl : _ = [_, _, _, _, _, _, _, _, _, _, _])) (by exact (rfl : _ = [_, _, _, _, _, _, _, _, _, _, _])) ?_
                refine RL.p T ?_
                refine RL.nil _ _ _ _ ?_
                refine hK61 _ _ _ ?_
                refine SW.sat (fun hs => ?_)
                refine SW.ret ?_
                refine retQ.rk (RVs.cN T rfl rfl rfl rfl (by exact (rfl : _ = [_, _, _, _, _, _, _, _, _, _, _])) (RVs.t RVs.nil)) ?_
                clear hK61 K61 hK60 K60 hK58 K58 hK57 K57 hK56 K56 hK53 K53 hK52 K52 hK6 K6 hK5 K5 hK4 K4 hK2 K2 hK1 K1 hK0 K0
                have hdl : (es.drop 6).length = es.length - 6 := List.length_drop
                first
                  | (rw [(oldE_form h6 (by omega)).1, (oldE_form h6 (by omega)).2]
                     first
                       | exact ⟨none, 0, 0, [_, _, _, _], rfl, rfl, Rd.nilS, rfl⟩)
                  | (rw [(oldE_less h6 (by omega) (by omega)).1, (oldE_less h6 (by omega) (by omega)).2]
                     first
                       | exact ⟨none, 0, 0, [_, _, _, _], rfl, rfl, Rd.nilS, rfl⟩)
                  | (rw [(oldE_more h6 (by omega) (by omega)).1, (oldE_more h6 (by omega) (by omega)).2]
                     first
                       | exact ⟨none, 0, 0, [_, _, _, _], rfl, rfl, Rd.nilS, rfl⟩)
                  | (rw [(oldE_chk h6 (by omega) (by omega) (by omega)).1, (oldE_chk h6 (by omega) (by omega) (by omega)).2]
                     first
                       | exact ⟨none, 0, 0, [_, _, _, _], rfl, rfl, Rd.nilS, rfl⟩)
                  | (have ho := oldE_ok h6 (by omega) (by omega) (by omega)
                     rw [ho.1, ho.2]
                     exact ⟨a1, _, c1, [_, _, _, _], rfl, rfl, (Rd.rowh (satl (G := [_, _, _, _]) hs) (by repeat first | exact At.head _ _ | apply At.tail)), rfl⟩)
                )
             ·skip
              first
               | (exfalso; first | omega | contradiction | (simp at *; done))
               | (
                refine SW.seq_k fun K62 hK62 => ?_
                refine SW.region _ _ _ _ ?_
                refine RL.p T ?_
                refine RL.lv1 T ?_
                refine RL.p T ?_
                refine RL.p T ?_
                refine RL.p T ?_
                refine RL.p T ?_
                refine RL.nil _ _ _ _ ?_
                refine hK62 _ _ _ ?_
                refine SW.cs (fun hc19 => ?_) (fun hc19 => ?_)
                ·skip
                 first
                  | (exfalso; first | omega | contradiction | (simp at *; done))
                  | (
                   refine SW.seq_k fun K63 hK63 => ?_
                   refine SW.region _ _ _ _ ?_
                   refine RL.s ?_
                   first | refine NV.buildc T rfl (rfl : _ = some [_, _, _, _, _, _, _, _, _, _, _]) ?_ | refine NV.buildz T rfl (rfl : _ = some [_, _, _, _, _, _, _, _, _, _, _]) ?_ | refine NV.pure T (rfl : _ = some (Value.agg #[_, _, _, _, _, _, _, _, _, _, _])) ?_
                   refine RL.s ?_
                   refine NV.sN T rfl rfl rfl (by exact (rfl : _ = [_, _, _, _, _, _, _, _, _, _, _])) (by exact (rfl : _ = [_, _, _, _, _, _, _, _, _, _, _])) ?_
                   refine RL.p T ?_
                   refine RL.nil _ _ _ _ ?_
                   refine hK63 _ _ _ ?_
                   refine SW.sat (fun hs => ?_)
                   refine SW.ret ?_
                   refine retQ.rk (RVs.cN T rfl rfl rfl rfl (by exact (rfl : _ = [_, _, _, _, _, _, _, _, _, _, _])) (RVs.t RVs.nil)) ?_
                   clear hK63 K63 hK62 K62 hK60 K60 hK58 K58 hK57 K57 hK56 K56 hK53 K53 hK52 K52 hK6 K6 hK5 K5 hK4 K4 hK2 K2 hK1 K1 hK0 K0
                   have hdl : (es.drop 6).length = es.length - 6 := List.length_drop
                   first
                     | (rw [(oldE_form h6 (by omega)).1, (oldE_form h6 (by omega)).2]
                        first
                          | exact ⟨none, 0, 0, [_, _, _, _], rfl, rfl, Rd.nilS, rfl⟩)
                     | (rw [(oldE_less h6 (by omega) (by omega)).1, (oldE_less h6 (by omega) (by omega)).2]
                        first
                          | exact ⟨none, 0, 0, [_, _, _, _], rfl, rfl, Rd.nilS, rfl⟩)
                     | (rw [(oldE_more h6 (by omega) (by omega)).1, (oldE_more h6 (by omega) (by omega)).2]
                        first
                          | exact ⟨none, 0, 0, [_, _, _, _], rfl, rfl, Rd.nilS, rfl⟩)
                     | (rw [(oldE_chk h6 (by omega) (by omega) (by omega)).1, (oldE_chk h6 (by omega) (by omega) (by omega)).2]
                        first
                          | exact ⟨none, 0, 0, [_, _, _, _], rfl, rfl, Rd.nilS, rfl⟩)
                     | (have ho := oldE_ok h6 (by omega) (by omega) (by omega)
                        rw [ho.1, ho.2]
                        exact ⟨a1, _, c1, [_, _, _, _], rfl, rfl, (Rd.rowh (satl (G := [_, _, _, _]) hs) (by repeat first | exact At.head _ _ | apply At.tail)), rfl⟩)
                   )
                ·skip
                 first
                  | (exfalso; first | omega | contradiction | (simp at *; done))
                  | (
                   refine SW.seq_k fun K64 hK64 => ?_
                   refine SW.region _ _ _ _ ?_
                   refine RL.q (QV.vN T rfl rfl rfl rfl rfl (by exact (rfl : _ = [_, _, _, _, _, _, _, _, _, _, _]))) ?_
                   refine RL.c fun25 (fun hs => fcheck (oldF es) a1 (es.drop 6).length c1 (Rd.rowh hs (by repeat first | exact At.head _ _ | apply At.tail)) rfl (by rw [List.length_drop]; omega) (oldS_ok hB 5)) ?_
                   rintro _ _ ⟨rfl, e⟩; obtain rfl := e.symm
                   refine RL.p T ?_
                   refine RL.p T ?_
                   refine RL.nil _ _ _ _ ?_
                   refine hK64 _ _ _ ?_
                   refine SW.cs (fun hc20 => ?_) (fun hc20 => ?_)
                   ·skip
                    first
                     | (exfalso; first | omega | contradiction | (simp at *; done))
                     | (
                      refine SW.seq_k fun K65 hK65 => ?_
                      refine SW.region _ _ _ _ ?_
                      refine RL.s ?_
                      first | refine NV.buildc T rfl (rfl : _ = some [_, _, _, _, _, _, _, _, _, _, _]) ?_ | refine NV.buildz T rfl (rfl : _ = some [_, _, _, _, _, _, _, _, _, _, _]) ?_ | refine NV.pure T (rfl : _ = some (Value.agg #[_, _, _, _, _, _, _, _, _, _, _])) ?_
                      refine RL.s ?_
                      refine NV.sN T rfl rfl rfl (by exact (rfl : _ = [_, _, _, _, _, _, _, _, _, _, _])) (by exact (rfl : _ = [_, _, _, _, _, _, _, _, _, _, _])) ?_
                      refine RL.p T ?_
                      refine RL.nil _ _ _ _ ?_
                      refine hK65 _ _ _ ?_
                      refine SW.sat (fun hs => ?_)
                      refine SW.ret ?_
                      refine retQ.rk (RVs.cN T rfl rfl rfl rfl (by exact (rfl : _ = [_, _, _, _, _, _, _, _, _, _, _])) (RVs.t RVs.nil)) ?_
                      clear hK65 K65 hK64 K64 hK62 K62 hK60 K60 hK58 K58 hK57 K57 hK56 K56 hK53 K53 hK52 K52 hK6 K6 hK5 K5 hK4 K4 hK2 K2 hK1 K1 hK0 K0
                      have hdl : (es.drop 6).length = es.length - 6 := List.length_drop
                      first
                        | (rw [(oldE_form h6 (by omega)).1, (oldE_form h6 (by omega)).2]
                           first
                             | exact ⟨none, 0, 0, [_, _, _, _], rfl, rfl, Rd.nilS, rfl⟩)
                        | (rw [(oldE_less h6 (by omega) (by omega)).1, (oldE_less h6 (by omega) (by omega)).2]
                           first
                             | exact ⟨none, 0, 0, [_, _, _, _], rfl, rfl, Rd.nilS, rfl⟩)
                        | (rw [(oldE_more h6 (by omega) (by omega)).1, (oldE_more h6 (by omega) (by omega)).2]
                           first
                             | exact ⟨none, 0, 0, [_, _, _, _], rfl, rfl, Rd.nilS, rfl⟩)
                        | (rw [(oldE_chk h6 (by omega) (by omega) (by omega)).1, (oldE_chk h6 (by omega) (by omega) (by omega)).2]
                           first
                             | exact ⟨none, 0, 0, [_, _, _, _], rfl, rfl, Rd.nilS, rfl⟩)
                        | (have ho := oldE_ok h6 (by omega) (by omega) (by omega)
                           rw [ho.1, ho.2]
                           exact ⟨a1, _, c1, [_, _, _, _], rfl, rfl, (Rd.rowh (satl (G := [_, _, _, _]) hs) (by repeat first | exact At.head _ _ | apply At.tail)), rfl⟩)
                      )
                   ·skip
                    first
                     | (exfalso; first | omega | contradiction | (simp at *; done))
                     | (
                      refine SW.skip ?_
                      refine hK56 _ _ _ ?_
                      refine SW.seq_k fun K66 hK66 => ?_
                      refine SW.region _ _ _ _ ?_
                      refine RL.q (QV.vN T rfl rfl rfl rfl rfl (by exact (rfl : _ = [_, _, _, _, _, _, _, _, _, _, _]))) ?_
                      refine RL.s ?_
                      refine NV.sN T rfl rfl rfl (by exact (rfl : _ = [_, _, _, _, _, _, _, _, _, _, _])) (by exact (rfl : _ = [_, _, _, _, _, _, _, _, _, _, _])) ?_
                      refine RL.p T ?_
                      refine RL.nil _ _ _ _ ?_
                      refine hK66 _ _ _ ?_
                      refine SW.sat (fun hs => ?_)
                      refine SW.ret ?_
                      refine retQ.rk (RVs.cN T rfl rfl rfl rfl (by exact (rfl : _ = [_, _, _, _, _, _, _, _, _, _, _])) (RVs.t RVs.nil)) ?_
                      clear hK66 K66 hK64 K64 hK62 K62 hK60 K60 hK58 K58 hK57 K57 hK56 K56 hK53 K53 hK52 K52 hK6 K6 hK5 K5 hK4 K4 hK2 K2 hK1 K1 hK0 K0
                      have hdl : (es.drop 6).length = es.length - 6 := List.length_drop
                      first
                        | (rw [(oldE_form h6 (by omega)).1, (oldE_form h6 (by omega)).2]
                           first
                             | exact ⟨none, 0, 0, [_, _, _, _], rfl, rfl, Rd.nilS, rfl⟩)
                        | (rw [(oldE_less h6 (by omega) (by omega)).1, (oldE_less h6 (by omega) (by omega)).2]
                           first
                             | exact ⟨none, 0, 0, [_, _, _, _], rfl, rfl, Rd.nilS, rfl⟩)
                        | (rw [(oldE_more h6 (by omega) (by omega)).1, (oldE_more h6 (by omega) (by omega)).2]
                           first
                             | exact ⟨none, 0, 0, [_, _, _, _], rfl, rfl, Rd.nilS, rfl⟩)
                        | (rw [(oldE_chk h6 (by omega) (by omega) (by omega)).1, (oldE_chk h6 (by omega) (by omega) (by omega)).2]
                           first
                             | exact ⟨none, 0, 0, [_, _, _, _], rfl, rfl, Rd.nilS, rfl⟩)
                        | (have ho := oldE_ok h6 (by omega) (by omega) (by omega)
                           rw [ho.1, ho.2]
                           exact ⟨a1, _, c1, [_, _, _, _], rfl, rfl, (Rd.rowh (satl (G := [_, _, _, _]) hs) (by repeat first | exact At.head _ _ | apply At.tail)), rfl⟩)
                      )
                   )
                )
             )
          )
      ·skip
       refine SW.seq_k fun K67 hK67 => ?_
       refine SW.region _ _ _ _ ?_
       refine RL.p T ?_
       refine RL.nil _ _ _ _ ?_
       refine hK67 _ _ _ ?_
       refine SW.seq_k fun K68 hK68 => ?_
       refine SW.cs (fun hc21 => ?_) (fun hc21 => ?_)
       ·skip
        first
         | (exfalso; first | omega | contradiction | (simp at *; done))
         | (
          refine SW.skip ?_
          refine hK68 _ _ _ ?_
          refine SW.seq_k fun K69 hK69 => ?_
          refine SW.block ?_
          refine SW.seq_k fun K70 hK70 => ?_
          refine SW.region _ _ _ _ ?_
          refine RL.p T ?_
          refine RL.p T ?_
          refine RL.p T ?_
          refine RL.p T ?_
          refine RL.nil _ _ _ _ ?_
          refine hK70 _ _ _ ?_
          refine SW.region _ _ _ _ ?_
          refine RL.p T ?_
          refine RL.p T ?_
          refine RL.ix T ?_ (hR := fun hs => (by repeat first | exact hR | apply Rd.cons | apply Rd.app))
          refine RL.le T ?_ (hR := fun hs => (by repeat first | exact hR | apply Rd.cons | apply Rd.app)) (hv := map_as (z := bi es 0) (by omega) rfl)
          refine RL.p T ?_
          first | refine RL.q (QV.shrP rfl rfl rfl (by exact (rfl : _ = ((_ : Nat) : Int))) (by omega) rfl) ?_ | refine RL.q (QV.shift rfl rfl rfl (by omega) (.inr ⟨rfl, rfl⟩)) ?_
          refine RL.q (QV.and1b T rfl rfl rfl (by omega) (by omega)) ?_
          refine RL.p T ?_
          refine RL.p T ?_
          refine RL.s ?_
          first
            | refine NV.store_var1 T rfl rfl rfl rfl (by conv => lhs; whnf) rfl (by repeat first | exact At.head _ _ | assumption | exact At.put (by assumption) _ | apply At.tail | apply At.app) rfl rfl ?_
            | refine NV.store_var T rfl rfl rfl (by exact (rfl : _ = [_])) rfl rfl (by repeat first | exact At.head _ _ | assumption | exact At.put (by assumption) _ | apply At.tail | apply At.app) (Nat.le_of_ble_eq_true rfl) rfl ?_
            | refine NV.store_elem T rfl rfl rfl rfl (by conv => lhs; whnf) rfl (by repeat first | exact At.head _ _ | assumption | exact At.put (by assumption) _ | apply At.tail | apply At.app) (by omega) ?_
          refine RL.nil _ _ _ _ ?_
          refine hK69 _ _ _ ?_
          refine SW.region _ _ _ _ ?_
          first | refine RL.ar ?_ | refine RL.p T ?_
          refine RL.p T ?_
          refine RL.nil _ _ _ _ ?_
          exact ⟨5 - 5, (by omega), 5, _, (by rfl), by omega, (.consI rfl (by first | omega | rfl) (.nil (by repeat first | exact Mx.refl | exact Mx.mix | refine Mx.put rfl ?_ | refine Mx.upd rfl ?_ | refine Mx.updl rfl ?_ | refine Mx.fin rfl ?_ | refine Mx.inner rfl ?_ | refine Mx.none ?_))), rfl, rfl⟩
          )
       ·skip
        first
         | (exfalso; first | omega | contradiction | (simp at *; done))
         | (
          refine SW.exit ?_
          refine hK5 _ _ _ ?_
          refine SW.seq_k fun K71 hK71 => ?_
          refine SW.seq_k fun K72 hK72 => ?_
          refine SW.region _ _ _ _ ?_
          refine RL.p T ?_
          refine RL.ix T ?_ (hR := fun hs => (by repeat first | exact hR | apply Rd.cons | apply Rd.app))
          refine RL.le T ?_ (hR := fun hs => (by repeat first | exact hR | apply Rd.cons | apply Rd.app)) (hv := map_as (z := bi es 5) (by omega) rfl)
          first | refine RL.cv T ?_ | refine RL.p T ?_ | refine RL.ts T ?_
          refine RL.p T ?_
          refine RL.nil _ _ _ _ ?_
          refine hK72 _ _ _ ?_
          refine SW.block ?_
          refine SW.seq_k fun K73 hK73 => ?_
          refine SW.region _ _ _ _ ?_
          refine RL.p T ?_
          refine RL.ix T ?_ (hR := fun hs => (by repeat first | exact hR | apply Rd.cons | apply Rd.app))
          refine RL.le T ?_ (hR := fun hs => (by repeat first | exact hR | apply Rd.cons | apply Rd.app)) (hv := map_as (z := bi es 0) (by omega) rfl)
          first | refine RL.q (QV.shrP rfl rfl rfl (by exact (rfl : _ = ((_ : Nat) : Int))) (by omega) rfl) ?_ | refine RL.q (QV.shift rfl rfl rfl (by omega) (.inr ⟨rfl, rfl⟩)) ?_
          refine RL.p T ?_
          refine RL.p T ?_
          refine RL.nil _ _ _ _ ?_
          refine hK73 _ _ _ ?_
          refine SW.cs (fun hc22 => ?_) (fun hc22 => ?_)
          ·skip
           first
            | (exfalso; first | omega | contradiction | (simp at *; done))
            | (
             refine SW.seq_k fun K74 hK74 => ?_
             refine SW.region _ _ _ _ ?_
             refine RL.s ?_
             first | refine NV.buildc T rfl (rfl : _ = some [_, _, _, _, _, _, _, _, _, _, _]) ?_ | refine NV.buildz T rfl (rfl : _ = some [_, _, _, _, _, _, _, _, _, _, _]) ?_ | refine NV.pure T (rfl : _ = some (Value.agg #[_, _, _, _, _, _, _, _, _, _, _])) ?_
             refine RL.s ?_
             refine NV.sN T rfl rfl rfl (by exact (rfl : _ = [_, _, _, _, _, _, _, _, _, _, _])) (by exact (rfl : _ = [_, _, _, _, _, _, _, _, _, _, _])) ?_
             refine RL.p T ?_
             refine RL.nil _ _ _ _ ?_
             refine hK74 _ _ _ ?_
             refine SW.sat (fun hs => ?_)
             refine SW.ret ?_
             refine retQ.rk (RVs.cN T rfl rfl rfl rfl (by exact (rfl : _ = [_, _, _, _, _, _, _, _, _, _, _])) (RVs.t RVs.nil)) ?_
             clear hK74 K74 hK73 K73 hK72 K72 hK71 K71 hK68 K68 hK67 K67 hK6 K6 hK5 K5 hK4 K4 hK2 K2 hK1 K1 hK0 K0
             have hdl : (es.drop 6).length = es.length - 6 := List.length_drop
             first
               | (rw [(oldE_form h6 (by omega)).1, (oldE_form h6 (by omega)).2]
                  first
                    | exact ⟨none, 0, 0, [_, _, _, _], rfl, rfl, Rd.nilS, rfl⟩)
               | (rw [(oldE_less h6 (by omega) (by omega)).1, (oldE_less h6 (by omega) (by omega)).2]
                  first
                    | exact ⟨none, 0, 0, [_, _, _, _], rfl, rfl, Rd.nilS, rfl⟩)
               | (rw [(oldE_more h6 (by omega) (by omega)).1, (oldE_more h6 (by omega) (by omega)).2]
                  first
                    | exact ⟨none, 0, 0, [_, _, _, _], rfl, rfl, Rd.nilS, rfl⟩)
               | (rw [(oldE_chk h6 (by omega) (by omega) (by omega)).1, (oldE_chk h6 (by omega) (by omega) (by omega)).2]
                  first
                    | exact ⟨none, 0, 0, [_, _, _, _], rfl, rfl, Rd.nilS, rfl⟩)
               | (have ho := oldE_ok h6 (by omega) (by omega) (by omega)
                  rw [ho.1, ho.2]
                  exact ⟨a1, _, c1, [_, _, _, _], rfl, rfl, (Rd.rowh (satl (G := [_, _, _, _]) hs) (by repeat first | exact At.head _ _ | apply At.tail)), rfl⟩)
             )
          ·skip
           first
            | (exfalso; first | omega | contradiction | (simp at *; done))
            | (
             refine SW.seq_k fun K75 hK75 => ?_
             refine SW.region _ _ _ _ ?_
             refine RL.p T ?_
             refine RL.lv1 T ?_
             refine RL.p T ?_
             refine RL.p T ?_
             refine RL.p T ?_
             refine RL.p T ?_
             refine RL.nil _ _ _ _ ?_
             refine hK75 _ _ _ ?_
             refine SW.cs (fun hc23 => ?_) (fun hc23 => ?_)
             ·skip
              first
               | (exfalso; first | omega | contradiction | (simp at *; done))
               | (
                refine SW.seq_k fun K76 hK76 => ?_
                refine SW.region _ _ _ _ ?_
                refine RL.s ?_
                first | refine NV.buildc T rfl (rfl : _ = some [_, _, _, _, _, _, _, _, _, _, _]) ?_ | refine NV.buildz T rfl (rfl : _ = some [_, _, _, _, _, _, _, _, _, _, _]) ?_ | refine NV.pure T (rfl : _ = some (Value.agg #[_, _, _, _, _, _, _, _, _, _, _])) ?_
                refine RL.s ?_
                refine NV.sN T rfl rfl rfl (by exact (rfl : _ = [_, _, _, _, _, _, _, _, _, _, _])) (by exact (rfl : _ = [_, _, _, _, _, _, _, _, _, _, _])) ?_
                refine RL.p T ?_
                refine RL.nil _ _ _ _ ?_
                refine hK76 _ _ _ ?_
                refine SW.sat (fun hs => ?_)
                refine SW.ret ?_
                refine retQ.rk (RVs.cN T rfl rfl rfl rfl (by exact (rfl : _ = [_, _, _, _, _, _, _, _, _, _, _])) (RVs.t RVs.nil)) ?_
                clear hK76 K76 hK75 K75 hK73 K73 hK72 K72 hK71 K71 hK68 K68 hK67 K67 hK6 K6 hK5 K5 hK4 K4 hK2 K2 hK1 K1 hK0 K0
                have hdl : (es.drop 6).length = es.length - 6 := List.length_drop
                first
                  | (rw [(oldE_form h6 (by omega)).1, (oldE_form h6 (by omega)).2]
                     first
                       | exact ⟨none, 0, 0, [_, _, _, _], rfl, rfl, Rd.nilS, rfl⟩)
                  | (rw [(oldE_less h6 (by omega) (by omega)).1, (oldE_less h6 (by omega) (by omega)).2]
                     first
                       | exact ⟨none, 0, 0, [_, _, _, _], rfl, rfl, Rd.nilS, rfl⟩)
                  | (rw [(oldE_more h6 (by omega) (by omega)).1, (oldE_more h6 (by omega) (by omega)).2]
                     first
                       | exact ⟨none, 0, 0, [_, _, _, _], rfl, rfl, Rd.nilS, rfl⟩)
                  | (rw [(oldE_chk h6 (by omega) (by omega) (by omega)).1, (oldE_chk h6 (by omega) (by omega) (by omega)).2]
                     first
                       | exact ⟨none, 0, 0, [_, _, _, _], rfl, rfl, Rd.nilS, rfl⟩)
                  | (have ho := oldE_ok h6 (by omega) (by omega) (by omega)
                     rw [ho.1, ho.2]
                     exact ⟨a1, _, c1, [_, _, _, _], rfl, rfl, (Rd.rowh (satl (G := [_, _, _, _]) hs) (by repeat first | exact At.head _ _ | apply At.tail)), rfl⟩)
                )
             ·skip
              first
               | (exfalso; first | omega | contradiction | (simp at *; done))
               | (
                refine SW.seq_k fun K77 hK77 => ?_
                refine SW.region _ _ _ _ ?_
                refine RL.p T ?_
                refine RL.lv1 T ?_
                refine RL.p T ?_
                refine RL.p T ?_
                refine RL.p T ?_
                refine RL.p T ?_
                refine RL.nil _ _ _ _ ?_
                refine hK77 _ _ _ ?_
                refine SW.cs (fun hc24 => ?_) (fun hc24 => ?_)
                ·skip
                 first
                  | (exfalso; first | omega | contradiction | (simp at *; done))
                  | (
                   refine SW.seq_k fun K78 hK78 => ?_
                   refine SW.region _ _ _ _ ?_
                   refine RL.s ?_
                   first | refine NV.buildc T rfl (rfl : _ = some [_, _, _, _, _, _, _, _, _, _, _]) ?_ | refine NV.buildz T rfl (rfl : _ = some [_, _, _, _, _, _, _, _, _, _, _]) ?_ | refine NV.pure T (rfl : _ = some (Value.agg #[_, _, _, _, _, _, _, _, _, _, _])) ?_
                   refine RL.s ?_
                   refine NV.sN T rfl rfl rfl (by exact (rfl : _ = [_, _, _, _, _, _, _, _, _, _, _])) (by exact (rfl : _ = [_, _, _, _, _, _, _, _, _, _, _])) ?_
                   refine RL.p T ?_
                   refine RL.nil _ _ _ _ ?_
                   refine hK78 _ _ _ ?_
                   refine SW.sat (fun hs => ?_)
                   refine SW.ret ?_
                   refine retQ.rk (RVs.cN T rfl rfl rfl rfl (by exact (rfl : _ = [_, _, _, _, _, _, _, _, _, _, _])) (RVs.t RVs.nil)) ?_
                   clear hK78 K78 hK77 K77 hK75 K75 hK73 K73 hK72 K72 hK71 K71 hK68 K68 hK67 K67 hK6 K6 hK5 K5 hK4 K4 hK2 K2 hK1 K1 hK0 K0
                   have hdl : (es.drop 6).length = es.length - 6 := List.length_drop
                   first
                     | (rw [(oldE_form h6 (by omega)).1, (oldE_form h6 (by omega)).2]
                        first
                          | exact ⟨none, 0, 0, [_, _, _, _], rfl, rfl, Rd.nilS, rfl⟩)
                     | (rw [(oldE_less h6 (by omega) (by omega)).1, (oldE_less h6 (by omega) (by omega)).2]
                        first
                          | exact ⟨none, 0, 0, [_, _, _, _], rfl, rfl, Rd.nilS, rfl⟩)
                     | (rw [(oldE_more h6 (by omega) (by omega)).1, (oldE_more h6 (by omega) (by omega)).2]
                        first
                          | exact ⟨none, 0, 0, [_, _, _, _], rfl, rfl, Rd.nilS, rfl⟩)
                     | (rw [(oldE_chk h6 (by omega) (by omega) (by omega)).1, (oldE_chk h6 (by omega) (by omega) (by omega)).2]
                        first
                          | exact ⟨none, 0, 0, [_, _, _, _], rfl, rfl, Rd.nilS, rfl⟩)
                     | (have ho := oldE_ok h6 (by omega) (by omega) (by omega)
                        rw [ho.1, ho.2]
                        exact ⟨a1, _, c1, [_, _, _, _], rfl, rfl, (Rd.rowh (satl (G := [_, _, _, _]) hs) (by repeat first | exact At.head _ _ | apply At.tail)), rfl⟩)
                   )
                ·skip
                 first
                  | (exfalso; first | omega | contradiction | (simp at *; done))
                  | (
                   refine SW.seq_k fun K79 hK79 => ?_
                   refine SW.region _ _ _ _ ?_
                   refine RL.q (QV.vN T rfl rfl rfl rfl rfl (by exact (rfl : _ = [_, _, _, _, _, _, _, _, _, _, _]))) ?_
                   refine RL.c fun25 (fun hs => fcheck (oldF es) a1 (es.drop 6).length c1 (Rd.rowh hs (by repeat first | exact At.head _ _ | apply At.tail)) rfl (by rw [List.length_drop]; omega) (oldS_ok hB 5)) ?_
                   rintro _ _ ⟨rfl, e⟩; obtain rfl := e.symm
                   refine RL.p T ?_
                   refine RL.p T ?_
                   refine RL.nil _ _ _ _ ?_
                   refine hK79 _ _ _ ?_
                   refine SW.cs (fun hc25 => ?_) (fun hc25 => ?_)
                   ·skip
                    first
                     | (exfalso; first | omega | contradiction | (simp at *; done))
                     | (
                      refine SW.seq_k fun K80 hK80 => ?_
                      refine SW.region _ _ _ _ ?_
                      refine RL.s ?_
                      first | refine NV.buildc T rfl (rfl : _ = some [_, _, _, _, _, _, _, _, _, _, _]) ?_ | refine NV.buildz T rfl (rfl : _ = some [_, _, _, _, _, _, _, _, _, _, _]) ?_ | refine NV.pure T (rfl : _ = some (Value.agg #[_, _, _, _, _, _, _, _, _, _, _])) ?_
                      refine RL.s ?_
                      refine NV.sN T rfl rfl rfl (by exact (rfl : _ = [_, _, _, _, _, _, _, _, _, _, _])) (by exact (rfl : _ = [_, _, _, _, _, _, _, _, _, _, _])) ?_
                      refine RL.p T ?_
                      refine RL.nil _ _ _ _ ?_
                      refine hK80 _ _ _ ?_
                      refine SW.sat (fun hs => ?_)
                      refine SW.ret ?_
                      refine retQ.rk (RVs.cN T rfl rfl rfl rfl (by exact (rfl : _ = [_, _, _, _, _, _, _, _, _, _, _])) (RVs.t RVs.nil)) ?_
                      clear hK80 K80 hK79 K79 hK77 K77 hK75 K75 hK73 K73 hK72 K72 hK71 K71 hK68 K68 hK67 K67 hK6 K6 hK5 K5 hK4 K4 hK2 K2 hK1 K1 hK0 K0
                      have hdl : (es.drop 6).length = es.length - 6 := List.length_drop
                      first
                        | (rw [(oldE_form h6 (by omega)).1, (oldE_form h6 (by omega)).2]
                           first
                             | exact ⟨none, 0, 0, [_, _, _, _], rfl, rfl, Rd.nilS, rfl⟩)
                        | (rw [(oldE_less h6 (by omega) (by omega)).1, (oldE_less h6 (by omega) (by omega)).2]
                           first
                             | exact ⟨none, 0, 0, [_, _, _, _], rfl, rfl, Rd.nilS, rfl⟩)
                        | (rw [(oldE_more h6 (by omega) (by omega)).1, (oldE_more h6 (by omega) (by omega)).2]
                           first
                             | exact ⟨none, 0, 0, [_, _, _, _], rfl, rfl, Rd.nilS, rfl⟩)
                        | (rw [(oldE_chk h6 (by omega) (by omega) (by omega)).1, (oldE_chk h6 (by omega) (by omega) (by omega)).2]
                           first
                             | exact ⟨none, 0, 0, [_, _, _, _], rfl, rfl, Rd.nilS, rfl⟩)
                        | (have ho := oldE_ok h6 (by omega) (by omega) (by omega)
                           rw [ho.1, ho.2]
                           exact ⟨a1, _, c1, [_, _, _, _], rfl, rfl, (Rd.rowh (satl (G := [_, _, _, _]) hs) (by repeat first | exact At.head _ _ | apply At.tail)), rfl⟩)
                      )
                   ·skip
                    first
                     | (exfalso; first | omega | contradiction | (simp at *; done))
                     | (
                      refine SW.skip ?_
                      refine hK71 _ _ _ ?_
                      refine SW.seq_k fun K81 hK81 => ?_
                      refine SW.region _ _ _ _ ?_
                      refine RL.q (QV.vN T rfl rfl rfl rfl rfl (by exact (rfl : _ = [_, _, _, _, _, _, _, _, _, _, _]))) ?_
                      refine RL.s ?_
                      refine NV.sN T rfl rfl rfl (by exact (rfl : _ = [_, _, _, _, _, _, _, _, _, _, _])) (by exact (rfl : _ = [_, _, _, _, _, _, _, _, _, _, _])) ?_
                      refine RL.p T ?_
                      refine RL.nil _ _ _ _ ?_
                      refine hK81 _ _ _ ?_
                      refine SW.sat (fun hs => ?_)
                      refine SW.ret ?_
                      refine retQ.rk (RVs.cN T rfl rfl rfl rfl (by exact (rfl : _ = [_, _, _, _, _, _, _, _, _, _, _])) (RVs.t RVs.nil)) ?_
                      clear hK81 K81 hK79 K79 hK77 K77 hK75 K75 hK73 K73 hK72 K72 hK71 K71 hK68 K68 hK67 K67 hK6 K6 hK5 K5 hK4 K4 hK2 K2 hK1 K1 hK0 K0
                      have hdl : (es.drop 6).length = es.length - 6 := List.length_drop
                      first
                        | (rw [(oldE_form h6 (by omega)).1, (oldE_form h6 (by omega)).2]
                           first
                             | exact ⟨none, 0, 0, [_, _, _, _], rfl, rfl, Rd.nilS, rfl⟩)
                        | (rw [(oldE_less h6 (by omega) (by omega)).1, (oldE_less h6 (by omega) (by omega)).2]
                           first
                             | exact ⟨none, 0, 0, [_, _, _, _], rfl, rfl, Rd.nilS, rfl⟩)
                        | (rw [(oldE_more h6 (by omega) (by omega)).1, (oldE_more h6 (by omega) (by omega)).2]
                           first
                             | exact ⟨none, 0, 0, [_, _, _, _], rfl, rfl, Rd.nilS, rfl⟩)
                        | (rw [(oldE_chk h6 (by omega) (by omega) (by omega)).1, (oldE_chk h6 (by omega) (by omega) (by omega)).2]
                           first
                             | exact ⟨none, 0, 0, [_, _, _, _], rfl, rfl, Rd.nilS, rfl⟩)
                        | (have ho := oldE_ok h6 (by omega) (by omega) (by omega)
                           rw [ho.1, ho.2]
                           exact ⟨a1, _, c1, [_, _, _, _], rfl, rfl, (Rd.rowh (satl (G := [_, _, _, _]) hs) (by repeat first | exact At.head _ _ | apply At.tail)), rfl⟩)
                      )
                   )
                )
             )
          )
      ·skip
       refine SW.seq_k fun K82 hK82 => ?_
       refine SW.region _ _ _ _ ?_
       refine RL.p T ?_
       refine RL.nil _ _ _ _ ?_
       refine hK82 _ _ _ ?_
       refine SW.seq_k fun K83 hK83 => ?_
       refine SW.cs (fun hc26 => ?_) (fun hc26 => ?_)
       ·skip
        first
         | (exfalso; first | omega | contradiction | (simp at *; done))
         | (
          refine SW.skip ?_
          refine hK83 _ _ _ ?_
          refine SW.seq_k fun K84 hK84 => ?_
          refine SW.block ?_
          refine SW.seq_k fun K85 hK85 => ?_
          refine SW.region _ _ _ _ ?_
          refine RL.p T ?_
          refine RL.p T ?_
          refine RL.p T ?_
          refine RL.p T ?_
          refine RL.nil _ _ _ _ ?_
          refine hK85 _ _ _ ?_
          refine SW.region _ _ _ _ ?_
          refine RL.p T ?_
          refine RL.p T ?_
          refine RL.ix T ?_ (hR := fun hs => (by repeat first | exact hR | apply Rd.cons | apply Rd.app))
          refine RL.le T ?_ (hR := fun hs => (by repeat first | exact hR | apply Rd.cons | apply Rd.app)) (hv := map_as (z := bi es 0) (by omega) rfl)
          refine RL.p T ?_
          first | refine RL.q (QV.shrP rfl rfl rfl (by exact (rfl : _ = ((_ : Nat) : Int))) (by omega) rfl) ?_ | refine RL.q (QV.shift rfl rfl rfl (by omega) (.inr ⟨rfl, rfl⟩)) ?_
          refine RL.q (QV.and1b T rfl rfl rfl (by omega) (by omega)) ?_
          refine RL.p T ?_
          refine RL.p T ?_
          refine RL.s ?_
          first
            | refine NV.store_var1 T rfl rfl rfl rfl (by conv => lhs; whnf) rfl (by repeat first | exact At.head _ _ | assumption | exact At.put (by assumption) _ | apply At.tail | apply At.app) rfl rfl ?_
            | refine NV.store_var T rfl rfl rfl (by exact (rfl : _ = [_])) rfl rfl (by repeat first | exact At.head _ _ | assumption | exact At.put (by assumption) _ | apply At.tail | apply At.app) (Nat.le_of_ble_eq_true rfl) rfl ?_
            | refine NV.store_elem T rfl rfl rfl rfl (by conv => lhs; whnf) rfl (by repeat first | exact At.head _ _ | assumption | exact At.put (by assumption) _ | apply At.tail | apply At.app) (by omega) ?_
          refine RL.nil _ _ _ _ ?_
          refine hK84 _ _ _ ?_
          refine SW.region _ _ _ _ ?_
          first | refine RL.ar ?_ | refine RL.p T ?_
          refine RL.p T ?_
          refine RL.nil _ _ _ _ ?_
          exact ⟨None, (by omega), (), (by rfl), trivial, (.consI rfl (by first | omega | rfl) (.nil (by repeat first | exact Mx.refl | exact Mx.mix | refine Mx.put rfl ?_ | refine Mx.upd rfl ?_ | refine Mx.updl rfl ?_ | refine Mx.fin rfl ?_ | refine Mx.inner rfl ?_ | refine Mx.none ?_))), rfl, rfl⟩
          )
       ·skip
        first
         | (exfalso; first | omega | contradiction | (simp at *; done))
         | (
          refine SW.exit ?_
          refine hK5 _ _ _ ?_
          refine SW.seq_k fun K86 hK86 => ?_
          refine SW.seq_k fun K87 hK87 => ?_
          refine SW.region _ _ _ _ ?_
          refine RL.p T ?_
          refine RL.ix T ?_ (hR := fun hs => (by repeat first | exact hR | apply Rd.cons | apply Rd.app))
          refine RL.le T ?_ (hR := fun hs => (by repeat first | exact hR | apply Rd.cons | apply Rd.app)) (hv := map_as (z := bi es 5) (by omega) rfl)
          first | refine RL.cv T ?_ | refine RL.p T ?_ | refine RL.ts T ?_
          refine RL.p T ?_
          refine RL.nil _ _ _ _ ?_
          refine hK87 _ _ _ ?_
          refine SW.block ?_
          refine SW.seq_k fun K88 hK88 => ?_
          refine SW.region _ _ _ _ ?_
          refine RL.p T ?_
          refine RL.ix T ?_ (hR := fun hs => (by repeat first | exact hR | apply Rd.cons | apply Rd.app))
          refine RL.le T ?_ (hR := fun hs => (by repeat first | exact hR | apply Rd.cons | apply Rd.app)) (hv := map_as (z := bi es 0) (by omega) rfl)
          first | refine RL.q (QV.shrP rfl rfl rfl (by exact (rfl : _ = ((_ : Nat) : Int))) (by omega) rfl) ?_ | refine RL.q (QV.shift rfl rfl rfl (by omega) (.inr ⟨rfl, rfl⟩)) ?_
          refine RL.p T ?_
          refine RL.p T ?_
          refine RL.nil _ _ _ _ ?_
          refine hK88 _ _ _ ?_
          refine SW.cs (fun hc27 => ?_) (fun hc27 => ?_)
          ·skip
           first
            | (exfalso; first | omega | contradiction | (simp at *; done))
            | (
             refine SW.seq_k fun K89 hK89 => ?_
             refine SW.region _ _ _ _ ?_
             refine RL.s ?_
             first | refine NV.buildc T rfl (rfl : _ = some [_, _, _, _, _, _, _, _, _, _, _]) ?_ | refine NV.buildz T rfl (rfl : _ = some [_, _, _, _, _, _, _, _, _, _, _]) ?_ | refine NV.pure T (rfl : _ = some (Value.agg #[_, _, _, _, _, _, _, _, _, _, _])) ?_
             refine RL.s ?_
             refine NV.sN T rfl rfl rfl (by exact (rfl : _ = [_, _, _, _, _, _, _, _, _, _, _])) (by exact (rfl : _ = [_, _, _, _, _, _, _, _, _, _, _])) ?_
             refine RL.p T ?_
             refine RL.nil _ _ _ _ ?_
             refine hK89 _ _ _ ?_
             refine SW.sat (fun hs => ?_)
             refine SW.ret ?_
             refine retQ.rk (RVs.cN T rfl rfl rfl rfl (by exact (rfl : _ = [_, _, _, _, _, _, _, _, _, _, _])) (RVs.t RVs.nil)) ?_
             clear hK89 K89 hK88 K88 hK87 K87 hK86 K86 hK83 K83 hK82 K82 hK6 K6 hK5 K5 hK4 K4 hK2 K2 hK1 K1 hK0 K0
             have hdl : (es.drop 6).length = es.length - 6 := List.length_drop
             first
               | (rw [(oldE_form h6 (by omega)).1, (oldE_form h6 (by omega)).2]
                  first
                    | exact ⟨none, 0, 0, [_, _, _, _], rfl, rfl, Rd.nilS, rfl⟩)
               | (rw [(oldE_less h6 (by omega) (by omega)).1, (oldE_less h6 (by omega) (by omega)).2]
                  first
                    | exact ⟨none, 0, 0, [_, _, _, _], rfl, rfl, Rd.nilS, rfl⟩)
               | (rw [(oldE_more h6 (by omega) (by omega)).1, (oldE_more h6 (by omega) (by omega)).2]
                  first
                    | exact ⟨none, 0, 0, [_, _, _, _], rfl, rfl, Rd.nilS, rfl⟩)
               | (rw [(oldE_chk h6 (by omega) (by omega) (by omega)).1, (oldE_chk h6 (by omega) (by omega) (by omega)).2]
                  first
                    | exact ⟨none, 0, 0, [_, _, _, _], rfl, rfl, Rd.nilS, rfl⟩)
               | (have ho := oldE_ok h6 (by omega) (by omega) (by omega)
                  rw [ho.1, ho.2]
                  exact ⟨a1, _, c1, [_, _, _, _], rfl, rfl, (Rd.rowh (satl (G := [_, _, _, _]) hs) (by repeat first | exact At.head _ _ | apply At.tail)), rfl⟩)
             )
          ·skip
           first
            | (exfalso; first | omega | contradiction | (simp at *; done))
            | (
             refine SW.seq_k fun K90 hK90 => ?_
             refine SW.region _ _ _ _ ?_
             refine RL.p T ?_
             refine RL.lv1 T ?_
             refine RL.p T ?_
             refine RL.p T ?_
             refine RL.p T ?_
             refine RL.p T ?_
             refine RL.nil _ _ _ _ ?_
             refine hK90 _ _ _ ?_
             refine SW.cs (fun hc28 => ?_) (fun hc28 => ?_)
             ·skip
              first
               | (exfalso; first | omega | contradiction | (simp at *; done))
               | (
                refine SW.seq_k fun K91 hK91 => ?_
                refine SW.region _ _ _ _ ?_
                refine RL.s ?_
                first | refine NV.buildc T rfl (rfl : _ = some [_, _, _, _, _, _, _, _, _, _, _]) ?_ | refine NV.buildz T rfl (rfl : _ = some [_, _, _, _, _, _, _, _, _, _, _]) ?_ | refine NV.pure T (rfl : _ = some (Value.agg #[_, _, _, _, _, _, _, _, _, _, _])) ?_
                refine RL.s ?_
                refine NV.sN T rfl rfl rfl (by exact (rfl : _ = [_, _, _, _, _, _, _, _, _, _, _])) (by exact (rfl : _ = [_, _, _, _, _, _, _, _, _, _, _])) ?_
                refine RL.p T ?_
                refine RL.nil _ _ _ _ ?_
                refine hK91 _ _ _ ?_
                refine SW.sat (fun hs => ?_)
                refine SW.ret ?_
                refine retQ.rk (RVs.cN T rfl rfl rfl rfl (by exact (rfl : _ = [_, _, _, _, _, _, _, _, _, _, _])) (RVs.t RVs.nil)) ?_
                clear hK91 K91 hK90 K90 hK88 K88 hK87 K87 hK86 K86 hK83 K83 hK82 K82 hK6 K6 hK5 K5 hK4 K4 hK2 K2 hK1 K1 hK0 K0
                have hdl : (es.drop 6).length = es.length - 6 := List.length_drop
                first
                  | (rw [(oldE_form h6 (by omega)).1, (oldE_form h6 (by omega)).2]
                     first
                       | exact ⟨none, 0, 0, [_, _, _, _], rfl, rfl, Rd.nilS, rfl⟩)
                  | (rw [(oldE_less h6 (by omega) (by omega)).1, (oldE_less h6 (by omega) (by omega)).2]
                     first
                       | exact ⟨none, 0, 0, [_, _, _, _], rfl, rfl, Rd.nilS, rfl⟩)
                  | (rw [(oldE_more h6 (by omega) (by omega)).1, (oldE_more h6 (by omega) (by omega)).2]
                     first
                       | exact ⟨none, 0, 0, [_, _, _, _], rfl, rfl, Rd.nilS, rfl⟩)
                  | (rw [(oldE_chk h6 (by omega) (by omega) (by omega)).1, (oldE_chk h6 (by omega) (by omega) (by omega)).2]
                     first
                       | exact ⟨none, 0, 0, [_, _, _, _], rfl, rfl, Rd.nilS, rfl⟩)
                  | (have ho := oldE_ok h6 (by omega) (by omega) (by omega)
                     rw [ho.1, ho.2]
                     exact ⟨a1, _, c1, [_, _, _, _], rfl, rfl, (Rd.rowh (satl (G := [_, _, _, _]) hs) (by repeat first | exact At.head _ _ | apply At.tail)), rfl⟩)
                )
             ·skip
              first
               | (exfalso; first | omega | contradiction | (simp at *; done))
               | (
                refine SW.seq_k fun K92 hK92 => ?_
                refine SW.region _ _ _ _ ?_
                refine RL.p T ?_
                refine RL.lv1 T ?_
                refine RL.p T ?_
                refine RL.p T ?_
                refine RL.p T ?_
                refine RL.p T ?_
                refine RL.nil _ _ _ _ ?_
                refine hK92 _ _ _ ?_
                refine SW.cs (fun hc29 => ?_) (fun hc29 => ?_)
                ·skip
                 first
                  | (exfalso; first | omega | contradiction | (simp at *; done))
                  | (
                   refine SW.seq_k fun K93 hK93 => ?_
                   refine SW.region _ _ _ _ ?_
                   refine RL.s ?_
                   first | refine NV.buildc T rfl (rfl : _ = some [_, _, _, _, _, _, _, _, _, _, _]) ?_ | refine NV.buildz T rfl (rfl : _ = some [_, _, _, _, _, _, _, _, _, _, _]) ?_ | refine NV.pure T (rfl : _ = some (Value.agg #[_, _, _, _, _, _, _, _, _, _, _])) ?_
                   refine RL.s ?_
                   refine NV.sN T rfl rfl rfl (by exact (rfl : _ = [_, _, _, _, _, _, _, _, _, _, _])) (by exact (rfl : _ = [_, _, _, _, _, _, _, _, _, _, _])) ?_
                   refine RL.p T ?_
                   refine RL.nil _ _ _ _ ?_
                   refine hK93 _ _ _ ?_
                   refine SW.sat (fun hs => ?_)
                   refine SW.ret ?_
                   refine retQ.rk (RVs.cN T rfl rfl rfl rfl (by exact (rfl : _ = [_, _, _, _, _, _, _, _, _, _, _])) (RVs.t RVs.nil)) ?_
                   clear hK93 K93 hK92 K92 hK90 K90 hK88 K88 hK87 K87 hK86 K86 hK83 K83 hK82 K82 hK6 K6 hK5 K5 hK4 K4 hK2 K2 hK1 K1 hK0 K0
                   have hdl : (es.drop 6).length = es.length - 6 := List.length_drop
                   first
                     | (rw [(oldE_form h6 (by omega)).1, (oldE_form h6 (by omega)).2]
                        first
                          | exact ⟨none, 0, 0, [_, _, _, _], rfl, rfl, Rd.nilS, rfl⟩)
                     | (rw [(oldE_less h6 (by omega) (by omega)).1, (oldE_less h6 (by omega) (by omega)).2]
                        first
                          | exact ⟨none, 0, 0, [_, _, _, _], rfl, rfl, Rd.nilS, rfl⟩)
                     | (rw [(oldE_more h6 (by omega) (by omega)).1, (oldE_more h6 (by omega) (by omega)).2]
                        first
                          | exact ⟨none, 0, 0, [_, _, _, _], rfl, rfl, Rd.nilS, rfl⟩)
                     | (rw [(oldE_chk h6 (by omega) (by omega) (by omega)).1, (oldE_chk h6 (by omega) (by omega) (by omega)).2]
                        first
                          | exact ⟨none, 0, 0, [_, _, _, _], rfl, rfl, Rd.nilS, rfl⟩)
                     | (have ho := oldE_ok h6 (by omega) (by omega) (by omega)
                        rw [ho.1, ho.2]
                        exact ⟨a1, _, c1, [_, _, _, _], rfl, rfl, (Rd.rowh (satl (G := [_, _, _, _]) hs) (by repeat first | exact At.head _ _ | apply At.tail)), rfl⟩)
                   )
                ·skip
                 first
                  | (exfalso; first | omega | contradiction | (simp at *; done))
                  | (
                   refine SW.seq_k fun K94 hK94 => ?_
                   refine SW.region _ _ _ _ ?_
                   refine RL.q (QV.vN T rfl rfl rfl rfl rfl (by exact (rfl : _ = [_, _, _, _, _, _, _, _, _, _, _]))) ?_
                   refine RL.c fun25 (fun hs => fcheck (oldF es) a1 (es.drop 6).length c1 (Rd.rowh hs (by repeat first | exact At.head _ _ | apply At.tail)) rfl (by rw [List.length_drop]; omega) (oldS_ok hB 5)) ?_
                   rintro _ _ ⟨rfl, e⟩; obtain rfl := e.symm
                   refine RL.p T ?_
                   refine RL.p T ?_
                   refine RL.nil _ _ _ _ ?_
                   refine hK94 _ _ _ ?_
                   refine SW.cs (fun hc30 => ?_) (fun hc30 => ?_)
                   ·skip
                    first
                     | (exfalso; first | omega | contradiction | (simp at *; done))
                     | (
                      refine SW.seq_k fun K95 hK95 => ?_
                      refine SW.region _ _ _ _ ?_
                      refine RL.s ?_
                      first | refine NV.buildc T rfl (rfl : _ = some [_, _, _, _, _, _, _, _, _, _, _]) ?_ | refine NV.buildz T rfl (rfl : _ = some [_, _, _, _, _, _, _, _, _, _, _]) ?_ | refine NV.pure T (rfl : _ = some (Value.agg #[_, _, _, _, _, _, _, _, _, _, _])) ?_
                      refine RL.s ?_
                      refine NV.sN T rfl rfl rfl (by exact (rfl : _ = [_, _, _, _, _, _, _, _, _, _, _])) (by exact (rfl : _ = [_, _, _, _, _, _, _, _, _, _, _])) ?_
                      refine RL.p T ?_
                      refine RL.nil _ _ _ _ ?_
                      refine hK95 _ _ _ ?_
                      refine SW.sat (fun hs => ?_)
                      refine SW.ret ?_
                      refine retQ.rk (RVs.cN T rfl rfl rfl rfl (by exact (rfl : _ = [_, _, _, _, _, _, _, _, _, _, _])) (RVs.t RVs.nil)) ?_
                      clear hK95 K95 hK94 K94 hK92 K92 hK90 K90 hK88 K88 hK87 K87 hK86 K86 hK83 K83 hK82 K82 hK6 K6 hK5 K5 hK4 K4 hK2 K2 hK1 K1 hK0 K0
                      have hdl : (es.drop 6).length = es.length - 6 := List.length_drop
                      first
                        | (rw [(oldE_form h6 (by omega)).1, (oldE_form h6 (by omega)).2]
                           first
                             | exact ⟨none, 0, 0, [_, _, _, _], rfl, rfl, Rd.nilS, rfl⟩)
                        | (rw [(oldE_less h6 (by omega) (by omega)).1, (oldE_less h6 (by omega) (by omega)).2]
                           first
                             | exact ⟨none, 0, 0, [_, _, _, _], rfl, rfl, Rd.nilS, rfl⟩)
                        | (rw [(oldE_more h6 (by omega) (by omega)).1, (oldE_more h6 (by omega) (by omega)).2]
                           first
                             | exact ⟨none, 0, 0, [_, _, _, _], rfl, rfl, Rd.nilS, rfl⟩)
                        | (rw [(oldE_chk h6 (by omega) (by omega) (by omega)).1, (oldE_chk h6 (by omega) (by omega) (by omega)).2]
                           first
                             | exact ⟨none, 0, 0, [_, _, _, _], rfl, rfl, Rd.nilS, rfl⟩)
                        | (have ho := oldE_ok h6 (by omega) (by omega) (by omega)
                           rw [ho.1, ho.2]
                           exact ⟨a1, _, c1, [_, _, _, _], rfl, rfl, (Rd.rowh (satl (G := [_, _, _, _]) hs) (by repeat first | exact At.head _ _ | apply At.tail)), rfl⟩)
                      )
                   ·skip
                    first
                     | (exfalso; first | omega | contradiction | (simp at *; done))
                     | (
                      refine SW.skip ?_
                      refine hK86 _ _ _ ?_
                      refine SW.seq_k fun K96 hK96 => ?_
                      refine SW.region _ _ _ _ ?_
                      refine RL.q (QV.vN T rfl rfl rfl rfl rfl (by exact (rfl : _ = [_, _, _, _, _, _, _, _, _, _, _]))) ?_
                      refine RL.s ?_
                      refine NV.sN T rfl rfl rfl (by exact (rfl : _ = [_, _, _, _, _, _, _, _, _, _, _])) (by exact (rfl : _ = [_, _, _, _, _, _, _, _, _, _, _])) ?_
                      refine RL.p T ?_
                      refine RL.nil _ _ _ _ ?_
                      refine hK96 _ _ _ ?_
                      refine SW.sat (fun hs => ?_)
                      refine SW.ret ?_
                      refine retQ.rk (RVs.cN T rfl rfl rfl rfl (by exact (rfl : _ = [_, _, _, _, _, _, _, _, _, _, _])) (RVs.t RVs.nil)) ?_
                      clear hK96 K96 hK94 K94 hK92 K92 hK90 K90 hK88 K88 hK87 K87 hK86 K86 hK83 K83 hK82 K82 hK6 K6 hK5 K5 hK4 K4 hK2 K2 hK1 K1 hK0 K0
                      have hdl : (es.drop 6).length = es.length - 6 := List.length_drop
                      first
                        | (rw [(oldE_form h6 (by omega)).1, (oldE_form h6 (by omega)).2]
                           first
                             | exact ⟨none, 0, 0, [_, _, _, _], rfl, rfl, Rd.nilS, rfl⟩)
                        | (rw [(oldE_less h6 (by omega) (by omega)).1, (oldE_less h6 (by omega) (by omega)).2]
                           first
                             | exact ⟨none, 0, 0, [_, _, _, _], rfl, rfl, Rd.nilS, rfl⟩)
                        | (rw [(oldE_more h6 (by omega) (by omega)).1, (oldE_more h6 (by omega) (by omega)).2]
                           first
                             | exact ⟨none, 0, 0, [_, _, _, _], rfl, rfl, Rd.nilS, rfl⟩)
                        | (rw [(oldE_chk h6 (by omega) (by omega) (by omega)).1, (oldE_chk h6 (by omega) (by omega) (by omega)).2]
                           first
                             | exact ⟨none, 0, 0, [_, _, _, _], rfl, rfl, Rd.nilS, rfl⟩)
                        | (have ho := oldE_ok h6 (by omega) (by omega) (by omega)
                           rw [ho.1, ho.2]
                           exact ⟨a1, _, c1, [_, _, _, _], rfl, rfl, (Rd.rowh (satl (G := [_, _, _, _]) hs) (by repeat first | exact At.head _ _ | apply At.tail)), rfl⟩)
                      )
                   )
                )
             )
          )
    )
theorem rgetold {w0 : World} {H : List Chunk} (sa : Option Addr) (n c : Nat) (es : List Int) (hR : Rd w0 H sa n c 1 (es.map (.int .u8))) (hn : n = es.length) (hm : n ≤ 140737488351232) (hB : Byte es) : SC Try.prog w0 12 #[.slice sa n c] H (fun v H' => FrV w0 H (oldR es) (oldE es) v H') := by
 refine SC.enter Try.func12 rfl (Nat.le_of_ble_eq_true rfl) ?_
 refine SW.seq_k fun K0 hK0 => ?_
 have hb0 := bi_rng hB 0
 have hb1 := bi_rng hB 1
 have hb2 := bi_rng hB 2
 have hb3 := bi_rng hB 3
 have hb4 := bi_rng hB 4
 have hb5 := bi_rng hB 5
 refine SW.region _ _ _ _ ?_
 refine RL.s ?_
 refine NV.alloc T rfl rfl rfl (by exact (rfl : _ = [_, _, _, _, _, _, _, _, _, _, _])) ?_
 intro b2_0
 refine RL.p T ?_
 refine RL.nil _ _ _ _ ?_
 refine hK0 _ _ _ ?_
 refine SW.seq_k fun K1 hK1 => ?_
 refine SW.seq_k fun K2 hK2 => ?_
 refine SW.region _ _ _ _ ?_
 refine RL.p T ?_
 refine RL.p T ?_
 refine RL.p T ?_
 refine RL.nil _ _ _ _ ?_
 refine hK2 _ _ _ ?_
 refine SW.cs (fun hc0 => ?_) (fun hc0 => ?_)
 ·skip
  first
   | (exfalso; first | omega | contradiction | (simp at *; done))
   | (
    refine SW.seq_k fun K3 hK3 => ?_
    refine SW.region _ _ _ _ ?_
    refine RL.s ?_
    first | refine NV.buildc T rfl (rfl : _ = some [_, _, _, _, _, _, _, _, _, _, _]) ?_ | refine NV.buildz T rfl (rfl : _ = some [_, _, _, _, _, _, _, _, _, _, _]) ?_ | refine NV.pure T (rfl : _ = some (Value.agg #[_, _, _, _, _, _, _, _, _, _, _])) ?_
    refine RL.s ?_
    refine NV.sN T rfl rfl rfl (by exact (rfl : _ = [_, _, _, _, _, _, _, _, _, _, _])) (by exact (rfl : _ = [_, _, _, _, _, _, _, _, _, _, _])) ?_
    refine RL.p T ?_
    refine RL.nil _ _ _ _ ?_
    refine hK3 _ _ _ ?_
    refine SW.sat (fun hs => ?_)
    refine SW.ret ?_
    refine retQ.rk (RVs.cN T rfl rfl rfl rfl (by exact (rfl : _ = [_, _, _, _, _, _, _, _, _, _, _])) (RVs.t RVs.nil)) ?_
    clear hK3 K3 hK2 K2 hK1 K1 hK0 K0
    have hdl : (es.drop 6).length = es.length - 6 := List.length_drop
    first
      | (rw [(oldE_short (by omega)).1, (oldE_short (by omega)).2]
         first
           | exact ⟨none, 0, 0, [_], rfl, rfl, Rd.nilS, rfl⟩
           | exact ⟨none, 0, 0, [_, _], rfl, rfl, Rd.nilS, rfl⟩
           | exact ⟨none, 0, 0, [_, _, _], rfl, rfl, Rd.nilS, rfl⟩)
      | (rw [(oldE_form (by omega) (by omega)).1, (oldE_form (by omega) (by omega)).2]
         first
           | exact ⟨none, 0, 0, [_], rfl, rfl, Rd.nilS, rfl⟩
           | exact ⟨none, 0, 0, [_, _], rfl, rfl, Rd.nilS, rfl⟩
           | exact ⟨none, 0, 0, [_, _, _], rfl, rfl, Rd.nilS, rfl⟩)
      | (rw [(oldE_less (by omega) (by omega) (by omega)).1, (oldE_less (by omega) (by omega) (by omega)).2]
         first
           | exact ⟨none, 0, 0, [_], rfl, rfl, Rd.nilS, rfl⟩
           | exact ⟨none, 0, 0, [_, _], rfl, rfl, Rd.nilS, rfl⟩
           | exact ⟨none, 0, 0, [_, _, _], rfl, rfl, Rd.nilS, rfl⟩)
      | (rw [(oldE_more (by omega) (by omega) (by omega)).1, (oldE_more (by omega) (by omega) (by omega)).2]
         first
           | exact ⟨none, 0, 0, [_], rfl, rfl, Rd.nilS, rfl⟩
           | exact ⟨none, 0, 0, [_, _], rfl, rfl, Rd.nilS, rfl⟩
           | exact ⟨none, 0, 0, [_, _, _], rfl, rfl, Rd.nilS, rfl⟩)
      | (rw [(oldE_chk (by omega) (by omega) (by omega) (by omega)).1, (oldE_chk (by omega) (by omega) (by omega) (by omega)).2]
         first
           | exact ⟨none, 0, 0, [_], rfl, rfl, Rd.nilS, rfl⟩
           | exact ⟨none, 0, 0, [_, _], rfl, rfl, Rd.nilS, rfl⟩
           | exact ⟨none, 0, 0, [_, _, _], rfl, rfl, Rd.nilS, rfl⟩)
      | (have ho := oldE_ok (es := es) (by omega) (by omega) (by omega) (by omega)
         rw [ho.1, ho.2]
         exact ⟨a0_, _, c0_, [_, _, _], rfl, (by show 0 + (n - 6) = (es.drop 6).length; omega), (Rd.rowh (satl (G := [_, _, _]) hs) (by repeat first | exact At.head _ _ | apply At.tail)), rfl⟩)
    )
 ·skip
  first
   | (exfalso; first | omega | contradiction | (simp at *; done))
   | (
    refine SW.skip ?_
    refine hK1 _ _ _ ?_
    refine SW.seq_k fun K4 hK4 => ?_
    refine SW.seq_k fun K5 hK5 => ?_
    refine SW.region _ _ _ _ ?_
    refine RL.p T ?_
    refine RL.ix T ?_ (hR := fun hs => (by repeat first | exact hR | apply Rd.cons | apply Rd.app))
    refine RL.le T ?_ (hR := fun hs => (by repeat first | exact hR | apply Rd.cons | apply Rd.app)) (hv := map_as (z := bi es 0) (by omega) rfl)
    refine RL.p T ?_
    refine RL.nil _ _ _ _ ?_
    refine hK5 _ _ _ ?_
    refine SW.cs (fun hc1 => ?_) (fun hc1 => ?_)
    ·skip
     first
      | (exfalso; first | omega | contradiction | (simp at *; done))
      | (
       refine SW.seq_k fun K6 hK6 => ?_
       refine SW.region _ _ _ _ ?_
       refine RL.s ?_
       first | refine NV.buildc T rfl (rfl : _ = some [_, _, _, _, _, _, _, _, _, _, _]) ?_ | refine NV.buildz T rfl (rfl : _ = some [_, _, _, _, _, _, _, _, _, _, _]) ?_ | refine NV.pure T (rfl : _ = some (Value.agg #[_, _, _, _, _, _, _, _, _, _, _])) ?_
       refine RL.s ?_
       refine NV.sN T rfl rfl rfl (by exact (rfl : _ = [_, _, _, _, _, _, _, _, _, _, _])) (by exact (rfl : _ = [_, _, _, _, _, _, _, _, _, _, _])) ?_
       refine RL.p T ?_
       refine RL.nil _ _ _ _ ?_
       refine hK6 _ _ _ ?_
       refine SW.sat (fun hs => ?_)
       refine SW.ret ?_
       refine retQ.rk (RVs.cN T rfl rfl rfl rfl (by exact (rfl : _ = [_, _, _, _, _, _, _, _, _, _, _])) (RVs.t RVs.nil)) ?_
       clear hK6 K6 hK5 K5 hK4 K4 hK2 K2 hK1 K1 hK0 K0
       have hdl : (es.drop 6).length = es.length - 6 := List.length_drop
       first
         | (rw [(oldE_short (by omega)).1, (oldE_short (by omega)).2]
            first
              | exact ⟨none, 0, 0, [_], rfl, rfl, Rd.nilS, rfl⟩
              | exact ⟨none, 0, 0, [_, _], rfl, rfl, Rd.nilS, rfl⟩
              | exact ⟨none, 0, 0, [_, _, _], rfl, rfl, Rd.nilS, rfl⟩)
         | (rw [(oldE_form (by omega) (by omega)).1, (oldE_form (by omega) (by omega)).2]
            first
              | exact ⟨none, 0, 0, [_], rfl, rfl, Rd.nilS, rfl⟩
              | exact ⟨none, 0, 0, [_, _], rfl, rfl, Rd.nilS, rfl⟩
              | exact ⟨none, 0, 0, [_, _, _], rfl, rfl, Rd.nilS, rfl⟩)
         | (rw [(oldE_less (by omega) (by omega) (by omega)).1, (oldE_less (by omega) (by omega) (by omega)).2]
            first
              | exact ⟨none, 0, 0, [_], rfl, rfl, Rd.nilS, rfl⟩
              | exact ⟨none, 0, 0, [_, _], rfl, rfl, Rd.nilS, rfl⟩
              | exact ⟨none, 0, 0, [_, _, _], rfl, rfl, Rd.nilS, rfl⟩)
         | (rw [(oldE_more (by omega) (by omega) (by omega)).1, (oldE_more (by omega) (by omega) (by omega)).2]
            first
              | exact ⟨none, 0, 0, [_], rfl, rfl, Rd.nilS, rfl⟩
              | exact ⟨none, 0, 0, [_, _], rfl, rfl, Rd.nilS, rfl⟩
              | exact ⟨none, 0, 0, [_, _, _], rfl, rfl, Rd.nilS, rfl⟩)
         | (rw [(oldE_chk (by omega) (by omega) (by omega) (by omega)).1, (oldE_chk (by omega) (by omega) (by omega) (by omega)).2]
            first
              | exact ⟨none, 0, 0, [_], rfl, rfl, Rd.nilS, rfl⟩
              | exact ⟨none, 0, 0, [_, _], rfl, rfl, Rd.nilS, rfl⟩
              | exact ⟨none, 0, 0, [_, _, _], rfl, rfl, Rd.nilS, rfl⟩)
         | (have ho := oldE_ok (es := es) (by omega) (by omega) (by omega) (by omega)
            rw [ho.1, ho.2]
            exact ⟨a0_, _, c0_, [_, _, _], rfl, (by show 0 + (n - 6) = (es.drop 6).length; omega), (Rd.rowh (satl (G := [_, _, _]) hs) (by repeat first | exact At.head _ _ | apply At.tail)), rfl⟩)
       )
    ·skip
     first
      | (exfalso; first | omega | contradiction | (simp at *; done))
      | (
       refine SW.skip ?_
       refine hK4 _ _ _ ?_
       refine SW.seq_k fun K7 hK7 => ?_
       refine SW.draw [(14, 0), (15, 1), (16, 2), (17, 3), (18, 4), (19, 5), (20, 6), (21, 7), (22, 8), (23, 9), (24, 10), (25, 11), (26, 12), (27, 13), (28, 14), (29, 15), (30, 16), (31, 17), (32, 18), (33, 19), (34, 20), (35, 21), (36, 22), (37, 23), (38, 24), (39, 25), (40, 26), (41, 27), (42, 28), (43, 29), (4, 30)] [[], [0], [1, 0], [2, 1, 0], [3, 2, 1, 0], [4, 3, 2, 1, 0], [], [6], [7, 6], [8, 7, 6], [9, 8, 7, 6], [10, 9, 8, 7, 6], [], [12], [13, 12], [14, 13, 12], [15, 14, 13, 12], [16, 15, 14, 13, 12], [], [18], [19, 18], [20, 19, 18], [21, 20, 19, 18], [22, 21, 20, 19, 18], [], [24], [25, 24], [26, 25, 24], [27, 26, 25, 24], [5, 4, 3, 2, 1, 0, 11, 10, 9, 8, 7, 6, 17, 16, 15, 14, 13, 12, 23, 22, 21, 20, 19, 18, 28, 27, 26, 25, 24], [], [30, 29, 5, 4, 3, 2, 1, 0, 11, 10, 9, 8, 7, 6, 17, 16, 15, 14, 13, 12, 23, 22, 21, 20, 19, 18, 28, 27, 26, 25, 24]] mixed (by kernel_rfl) (by kernel_rfl) ?_
       refine RD.p T ?_
       refine RD.q rfl rfl (Gd.none rfl) (QV.indexAddr_slice T rfl rfl rfl rfl rfl (hR.some (by omega)) (by omega) (by omega)) ?_
       refine RD.q rfl rfl (Gd.none rfl) (QV.load_elem T rfl rfl rfl rfl (by repeat first | exact hR | apply Rd.cons | apply Rd.app) (map_as (z := bi es 0) (by show 0 < _; omega) rfl)) ?_
       refine RD.q rfl rfl (Gd.none rfl) (QV.remP rfl rfl rfl (by omega) (by omega)) ?_
       refine RD.q rfl rfl (Gd.none rfl) (QV.convI T rfl rfl rfl rfl (by simp only [loK]; omega) (by simp only [hiK]; omega)) ?_
       refine RD.q rfl rfl (Gd.none rfl) (by first | exact QV.arith rfl rfl rfl rfl (by omega) (by omega) | exact QV.arith_u8 rfl rfl rfl rfl (by omega) (by omega) | exact QV.arith_u16 rfl rfl rfl rfl (by omega) (by omega) | exact QV.arith_u32 rfl rfl rfl rfl (by omega) (by omega) | exact QV.arith_u64 rfl rfl rfl rfl (by omega) (by omega) | exact pev_sound T rfl) ?_
       refine RD.p T ?_
       refine RD.q rfl rfl (Gd.none rfl) (QV.indexAddr_slice T rfl rfl rfl rfl rfl (hR.some (by omega)) (by omega) (by omega)) ?_
       refine RD.q rfl rfl (Gd.none rfl) (QV.load_elem T rfl rfl rfl rfl (by repeat first | exact hR | apply Rd.cons | apply Rd.app) (map_as (z := bi es 0) (by show 0 < _; omega) rfl)) ?_
       refine RD.q rfl rfl (Gd.none rfl) (QV.quoP rfl rfl rfl (by omega) (by omega) (by simp only [hiK]; omega)) ?_
       refine RD.q rfl rfl (Gd.none rfl) (QV.remP rfl rfl rfl (by omega) (by omega)) ?_
       refine RD.p T ?_
       refine RD.p T ?_
       refine RD.q rfl rfl (Gd.none rfl) (QV.indexAddr_slice T rfl rfl rfl rfl rfl (hR.some (by omega)) (by omega) (by omega)) ?_
       refine RD.q rfl rfl (Gd.none rfl) (QV.load_elem T rfl rfl rfl rfl (by repeat first | exact hR | apply Rd.cons | apply Rd.app) (map_as (z := bi es 0) (by show 0 < _; omega) rfl)) ?_
       refine RD.q rfl rfl (Gd.none rfl) (QV.quoP rfl rfl rfl (by omega) (by omega) (by simp only [hiK]; omega)) ?_
       refine RD.q rfl rfl (Gd.none rfl) (QV.remP rfl rfl rfl (by omega) (by omega)) ?_
       refine RD.p T ?_
       refine RD.p T ?_
       refine RD.q rfl rfl (Gd.none rfl) (QV.indexAddr_slice T rfl rfl rfl rfl rfl (hR.some (by omega)) (by omega) (by omega)) ?_
       refine RD.q rfl rfl (Gd.none rfl) (QV.load_elem T rfl rfl rfl rfl (by repeat first | exact hR | apply Rd.cons | apply Rd.app) (map_as (z := bi es 0) (by show 0 < _; omega) rfl)) ?_
       refine RD.q rfl rfl (Gd.none rfl) (QV.quoP rfl rfl rfl (by omega) (by omega) (by simp only [hiK]; omega)) ?_
       refine RD.q rfl rfl (Gd.none rfl) (QV.remP rfl rfl rfl (by omega) (by omega)) ?_
       refine RD.p T ?_
       refine RD.p T ?_
       refine RD.q rfl rfl (Gd.none rfl) (QV.indexAddr_slice T rfl rfl rfl rfl rfl (hR.some (by omega)) (by omega) (by omega)) ?_
       refine RD.q rfl rfl (Gd.none rfl) (QV.load_elem T rfl rfl rfl rfl (by repeat first | exact hR | apply Rd.cons | apply Rd.app) (map_as (z := bi es 0) (by show 0 < _; omega) rfl)) ?_
       refine RD.q rfl rfl (Gd.none rfl) (QV.quoP rfl rfl rfl (by omega) (by omega) (by simp only [hiK]; omega)) ?_
       refine RD.q rfl rfl (Gd.none rfl) (QV.as (v' := .bool (decide (bi es 0 / 16 % 2 = 1))) (pev_sound T (by conv => lhs; whnf; arg 1; whnf)) (by rw [show bi es 0 / 16 % 2 = bi es 0 / 16 by omega])) ?_
       refine RD.q rfl rfl (Gd.none rfl) (by first | exact QV.buildc T rfl (rfl : _ = some [_, _, _, _, _, _, _, _, _, _, _]) | exact pev_sound T (rfl : _ = some (Value.agg #[_, _, _, _, _, _, _, _, _, _, _]))) ?_
       refine RD.nv rfl rfl rfl (Gd.none rfl) ?_
       refine NV.alloc T rfl rfl rfl (by exact (rfl : _ = [_, _, _, _, _, _, _, _, _, _, _])) ?_
       intro b4_1
       refine ⟨(Stab.cons rfl (Gd.none rfl) (pev_sound T rfl) (Stab.cons rfl (Gd.none rfl) (QV.as (v' := .bool (decide (bi es 0 / 16 % 2 = 1))) (pev_sound T (by conv => lhs; whnf; arg 1; whnf)) (by rw [show bi es 0 / 16 % 2 = bi es 0 / 16 by omega])) (Stab.cons rfl (Gd.none rfl) (QV.quoP rfl rfl rfl (by omega) (by omega) (by simp only [hiK]; omega)) (Stab.cons rfl (Gd.none rfl) (QV.load_elem T rfl rfl rfl rfl (by repeat first | exact hR | apply Rd.cons | apply Rd.app) (map_as (z := bi es 0) (by show 0 < _; omega) rfl)) (Stab.cons rfl (Gd.none rfl) (QV.indexAddr_slice T rfl rfl rfl rfl rfl (hR.some (by omega)) (by omega) (by omega)) (Stab.cons rfl (Gd.none rfl) (pev_sound T rfl) (Stab.cons rfl (Gd.none rfl) (pev_sound T rfl) (Stab.cons rfl (Gd.none rfl) (QV.remP rfl rfl rfl (by omega) (by omega)) (Stab.cons rfl (Gd.none rfl) (QV.quoP rfl rfl rfl (by omega) (by omega) (by simp only [hiK]; omega)) (Stab.cons rfl (Gd.none rfl) (QV.load_elem T rfl rfl rfl rfl (by repeat first | exact hR | apply Rd.cons | apply Rd.app) (map_as (z := bi es 0) (by show 0 < _; omega) rfl)) (Stab.cons rfl (Gd.none rfl) (QV.indexAddr_slice T rfl rfl rfl rfl rfl (hR.some (by omega)) (by omega) (by omega)) (Stab.cons rfl (Gd.none rfl) (pev_sound T rfl) (Stab.cons rfl (Gd.none rfl) (pev_sound T rfl) (Stab.cons rfl (Gd.none rfl) (QV.remP rfl rfl rfl (by omega) (by omega)) (Stab.cons rfl (Gd.none rfl) (QV.quoP rfl rfl rfl (by omega) (by omega) (by simp only [hiK]; omega)) (Stab.cons rfl (Gd.none rfl) (QV.load_elem T rfl rfl rfl rfl (by repeat first | exact hR | apply Rd.cons | apply Rd.app) (map_as (z := bi es 0) (by show 0 < _; omega) rfl)) (Stab.cons rfl (Gd.none rfl) (QV.indexAddr_slice T rfl rfl rfl rfl rfl (hR.some (by omega)) (by omega) (by omega)) (Stab.cons rfl (Gd.none rfl) (pev_sound T rfl) (Stab.cons rfl (Gd.none rfl) (pev_sound T rfl) (Stab.cons rfl (Gd.none rfl) (QV.remP rfl rfl rfl (by omega) (by omega)) (Stab.cons rfl (Gd.none rfl) (QV.quoP rfl rfl rfl (by omega) (by omega) (by simp only [hiK]; omega)) (Stab.cons rfl (Gd.none rfl) (QV.load_elem T rfl rfl rfl rfl (by repeat first | exact hR | apply Rd.cons | apply Rd.app) (map_as (z := bi es 0) (by show 0 < _; omega) rfl)) (Stab.cons rfl (Gd.none rfl) (QV.indexAddr_slice T rfl rfl rfl rfl rfl (hR.some (by omega)) (by omega) (by omega)) (Stab.cons rfl (Gd.none rfl) (pev_sound T rfl) (Stab.cons rfl (Gd.none rfl) (by first | exact pev_sound T rfl | exact QV.arith rfl rfl rfl rfl (by omega) (by omega) | exact QV.arith_u8 rfl rfl rfl rfl (by omega) (by omega) | exact QV.arith_u16 rfl rfl rfl rfl (by omega) (by omega) | exact QV.arith_u32 rfl rfl rfl rfl (by omega) (by omega) | exact QV.arith_u64 rfl rfl rfl rfl (by omega) (by omega) ) (Stab.cons rfl (Gd.none rfl) (QV.convI T rfl rfl rfl rfl (by simp only [loK]; omega) (by simp only [hiK]; omega)) (Stab.cons rfl (Gd.none rfl) (QV.remP rfl rfl rfl (by omega) (by omega)) (Stab.cons rfl (Gd.none rfl) (QV.load_elem T rfl rfl rfl rfl (by repeat first | exact hR | apply Rd.cons | apply Rd.app) (map_as (z := bi es 0) (by show 0 < _; omega) rfl)) (Stab.cons rfl (Gd.none rfl) (QV.indexAddr_slice T rfl rfl rfl rfl rfl (hR.some (by omega)) (by omega) (by omega)) (Stab.cons rfl (Gd.none rfl) (pev_sound T rfl) Stab.nil)))))))))))))))))))))))))))))), ?_⟩
       refine RD.nv rfl rfl rfl (Gd.none rfl) ?_
       refine NV.sN T rfl rfl rfl (by exact (rfl : _ = [_, _, _, _, _, _, _, _, _, _, _])) (by exact (rfl : _ = [_, _, _, _, _, _, _, _, _, _, _])) ?_
       refine ⟨Stab.nil, ?_⟩
       refine RD.k rfl rfl ?_
       refine hK7 _ _ _ ?_
       refine SW.seq_k fun K8 hK8 => ?_
       refine SW.draw [(44, 0), (45, 1), (46, 2), (47, 3), (48, 4), (49, 5), (50, 6), (51, 7), (52, 8), (53, 9), (54, 10), (55, 11), (56, 12), (57, 13), (58, 14), (59, 15), (60, 16), (61, 17), (62, 18), (63, 19), (64, 20), (65, 21), (66, 22)] [[], [0], [1, 0], [2, 1, 0], [3, 2, 1, 0], [], [5], [6, 5], [7, 6, 5], [8, 7, 6, 5], [4, 3, 2, 1, 0, 9, 8, 7, 6, 5], [], [11], [12, 11], [13, 12, 11], [14, 13, 12, 11], [10, 4, 3, 2, 1, 0, 9, 8, 7, 6, 5, 15, 14, 13, 12, 11], [], [17], [18, 17], [19, 18, 17], [16, 10, 4, 3, 2, 1, 0, 9, 8, 7, 6, 5, 15, 14, 13, 12, 11, 20, 19, 18, 17], [0, 1, 2, 3, 4, 5, 6, 7, 8, 9, 10, 11, 12, 13, 14, 15, 16, 17, 18, 19, 20, 21], [22, 0, 1, 2, 3, 4, 5, 6, 7, 8, 9, 10, 11, 12, 13, 14, 15, 16, 17, 18, 19, 20, 21]] mixed (by kernel_rfl) (by kernel_rfl) ?_
       refine RD.p T ?_
       refine RD.q rfl rfl (Gd.none rfl) (QV.indexAddr_slice T rfl rfl rfl rfl rfl (hR.some (by omega)) (by omega) (by omega)) ?_
       refine RD.q rfl rfl (Gd.none rfl) (QV.load_elem T rfl rfl rfl rfl (by repeat first | exact hR | apply Rd.cons | apply Rd.app) (map_as (z := bi es 1) (by show 1 < _; omega) rfl)) ?_
       refine RD.q rfl rfl (Gd.none rfl) (QV.convI T rfl rfl rfl rfl (by simp only [loK]; omega) (by simp only [hiK]; omega)) ?_
       refine RD.q rfl rfl (Gd.none rfl) (QV.shlP (s := 24) rfl rfl rfl rfl rfl (by simp only [loK]; omega) (by simp only [hiK]; omega)) ?_
       refine RD.p T ?_
       refine RD.q rfl rfl (Gd.none rfl) (QV.indexAddr_slice T rfl rfl rfl rfl rfl (hR.some (by omega)) (by omega) (by omega)) ?_
       refine RD.q rfl rfl (Gd.none rfl) (QV.load_elem T rfl rfl rfl rfl (by repeat first | exact hR | apply Rd.cons | apply Rd.app) (map_as (z := bi es 2) (by show 2 < _; omega) rfl)) ?_
       refine RD.q rfl rfl (Gd.none rfl) (QV.convI T rfl rfl rfl rfl (by simp only [loK]; omega) (by simp only [hiK]; omega)) ?_
       refine RD.q rfl rfl (Gd.none rfl) (QV.shlP (s := 16) rfl rfl rfl rfl rfl (by simp only [loK]; omega) (by simp only [hiK]; omega)) ?_
       refine RD.q rfl rfl (Gd.none rfl) (QV.orD T (bi es 1).toNat 24 rfl rfl rfl rfl (by rw [Int.toNat_of_nonneg (by omega)]; try omega) (by omega) (by omega) (by simp only [hiK]; omega)) ?_
       refine RD.p T ?_
       refine RD.q rfl rfl (Gd.none rfl) (QV.indexAddr_slice T rfl rfl rfl rfl rfl (hR.some (by omega)) (by omega) (by omega)) ?_
       refine RD.q rfl rfl (Gd.none rfl) (QV.load_elem T rfl rfl rfl rfl (by repeat first | exact hR | apply Rd.cons | apply Rd.app) (map_as (z := bi es 3) (by show 3 < _; omega) rfl)) ?_
       refine RD.q rfl rfl (Gd.none rfl) (QV.convI T rfl rfl rfl rfl (by simp only [loK]; omega) (by simp only [hiK]; omega)) ?_
       refine RD.q rfl rfl (Gd.none rfl) (QV.shlP (s := 8) rfl rfl rfl rfl rfl (by simp only [loK]; omega) (by simp only [hiK]; omega)) ?_
       refine RD.q rfl rfl (Gd.none rfl) (QV.orD T (bi es 1 * 2 ^ 8 + bi es 2).toNat 16 rfl rfl rfl rfl (by rw [Int.toNat_of_nonneg (by omega)]; try omega) (by omega) (by omega) (by simp only [hiK]; omega)) ?_
       refine RD.p T ?_
       refine RD.q rfl rfl (Gd.none rfl) (QV.indexAddr_slice T rfl rfl rfl rfl rfl (hR.some (by omega)) (by omega) (by omega)) ?_
       refine RD.q rfl rfl (Gd.none rfl) (QV.load_elem T rfl rfl rfl rfl (by repeat first | exact hR | apply Rd.cons | apply Rd.app) (map_as (z := bi es 4) (by show 4 < _; omega) rfl)) ?_
       refine RD.q rfl rfl (Gd.none rfl) (QV.convI T rfl rfl rfl rfl (by simp only [loK]; omega) (by simp only [hiK]; omega)) ?_
       refine RD.q rfl rfl (Gd.none rfl) (QV.orD T (bi es 1 * 2 ^ 16 + bi es 2 * 2 ^ 8 + bi es 3).toNat 8 rfl rfl rfl rfl (by rw [Int.toNat_of_nonneg (by omega)]; try omega) (by omega) (by omega) (by simp only [hiK]; omega)) ?_
       refine RD.p T ?_
       refine RD.nv rfl rfl rfl (Gd.none rfl) ?_
       refine NV.s1 T ?_
       refine ⟨Stab.nil, ?_⟩
       refine RD.k rfl rfl ?_
       refine hK8 _ _ _ ?_
       refine SW.seq_k fun K9 hK9 => ?_
       refine SW.seq_k fun K10 hK10 => ?_
       refine SW.region _ _ _ _ ?_
       refine RL.p T ?_
       refine RL.p T ?_
       refine RL.p T ?_
       refine RL.ix T ?_ (hR := fun hs => (by repeat first | exact hR | apply Rd.cons | apply Rd.app))
       refine RL.le T ?_ (hR := fun hs => (by repeat first | exact hR | apply Rd.cons | apply Rd.app)) (hv := map_as (z := bi es 5) (by omega) rfl)
       first | refine RL.cv T ?_ | refine RL.p T ?_ | refine RL.ts T ?_
       first | refine RL.ar ?_ | refine RL.p T ?_
       refine RL.p T ?_
       refine RL.nil _ _ _ _ ?_
       refine hK10 _ _ _ ?_
       refine SW.cs (fun hc2 => ?_) (fun hc2 => ?_)
       ·skip
        first
         | (exfalso; first | omega | contradiction | (simp at *; done))
         | (
          refine SW.seq_k fun K11 hK11 => ?_
          refine SW.region _ _ _ _ ?_
          refine RL.s ?_
          first | refine NV.buildc T rfl (rfl : _ = some [_, _, _, _, _, _, _, _, _, _, _]) ?_ | refine NV.buildz T rfl (rfl : _ = some [_, _, _, _, _, _, _, _, _, _, _]) ?_ | refine NV.pure T (rfl : _ = some (Value.agg #[_, _, _, _, _, _, _, _, _, _, _])) ?_
          refine RL.s ?_
          refine NV.sN T rfl rfl rfl (by exact (rfl : _ = [_, _, _, _, _, _, _, _, _, _, _])) (by exact (rfl : _ = [_, _, _, _, _, _, _, _, _, _, _])) ?_
          refine RL.p T ?_
          refine RL.nil _ _ _ _ ?_
          refine hK11 _ _ _ ?_
          refine SW.sat (fun hs => ?_)
          refine SW.ret ?_
          refine retQ.rk (RVs.cN T rfl rfl rfl rfl (by exact (rfl : _ = [_, _, _, _, _, _, _, _, _, _, _])) (RVs.t RVs.nil)) ?_
          clear hK11 K11 hK10 K10 hK9 K9 hK8 K8 hK7 K7 hK5 K5 hK4 K4 hK2 K2 hK1 K1 hK0 K0
          have hdl : (es.drop 6).length = es.length - 6 := List.length_drop
          first
            | (rw [(oldE_short (by omega)).1, (oldE_short (by omega)).2]
               first
                 | exact ⟨none, 0, 0, [_], rfl, rfl, Rd.nilS, rfl⟩
                 | exact ⟨none, 0, 0, [_, _], rfl, rfl, Rd.nilS, rfl⟩
                 | exact ⟨none, 0, 0, [_, _, _], rfl, rfl, Rd.nilS, rfl⟩)
            | (rw [(oldE_form (by omega) (by omega)).1, (oldE_form (by omega) (by omega)).2]
               first
                 | exact ⟨none, 0, 0, [_], rfl, rfl, Rd.nilS, rfl⟩
                 | exact ⟨none, 0, 0, [_, _], rfl, rfl, Rd.nilS, rfl⟩
                 | exact ⟨none, 0, 0, [_, _, _], rfl, rfl, Rd.nilS, rfl⟩)
            | (rw [(oldE_less (by omega) (by omega) (by omega)).1, (oldE_less (by omega) (by omega) (by omega)).2]
               first
                 | exact ⟨none, 0, 0, [_], rfl, rfl, Rd.nilS, rfl⟩
                 | exact ⟨none, 0, 0, [_, _], rfl, rfl, Rd.nilS, rfl⟩
                 | exact ⟨none, 0, 0, [_, _, _], rfl, rfl, Rd.nilS, rfl⟩)
            | (rw [(oldE_more (by omega) (by omega) (by omega)).1, (oldE_more (by omega) (by omega) (by omega)).2]
               first
                 | exact ⟨none, 0, 0, [_], rfl, rfl, Rd.nilS, rfl⟩
                 | exact ⟨none, 0, 0, [_, _], rfl, rfl, Rd.nilS, rfl⟩
                 | exact ⟨none, 0, 0, [_, _, _], rfl, rfl, Rd.nilS, rfl⟩)
            | (rw [(oldE_chk (by omega) (by omega) (by omega) (by omega)).1, (oldE_chk (by omega) (by omega) (by omega) (by omega)).2]
               first
                 | exact ⟨none, 0, 0, [_], rfl, rfl, Rd.nilS, rfl⟩
                 | exact ⟨none, 0, 0, [_, _], rfl, rfl, Rd.nilS, rfl⟩
                 | exact ⟨none, 0, 0, [_, _, _], rfl, rfl, Rd.nilS, rfl⟩)
            | (have ho := oldE_ok (es := es) (by omega) (by omega) (by omega) (by omega)
               rw [ho.1, ho.2]
               exact ⟨a0_, _, c0_, [_, _, _], rfl, (by show 0 + (n - 6) = (es.drop 6).length; omega), (Rd.rowh (satl (G := [_, _, _]) hs) (by repeat first | exact At.head _ _ | apply At.tail)), rfl⟩)
          )
       ·skip
        first
         | (exfalso; first | omega | contradiction | (simp at *; done))
         | (
          refine SW.skip ?_
          refine hK9 _ _ _ ?_
          refine SW.seq_k fun K12 hK12 => ?_
          refine SW.seq_k fun K13 hK13 => ?_
          refine SW.region _ _ _ _ ?_
          refine RL.p T ?_
          refine RL.p T ?_
          refine RL.p T ?_
          refine RL.ix T ?_ (hR := fun hs => (by repeat first | exact hR | apply Rd.cons | apply Rd.app))
          refine RL.le T ?_ (hR := fun hs => (by repeat first | exact hR | apply Rd.cons | apply Rd.app)) (hv := map_as (z := bi es 5) (by omega) rfl)
          first | refine RL.cv T ?_ | refine RL.p T ?_ | refine RL.ts T ?_
          first | refine RL.ar ?_ | refine RL.p T ?_
          refine RL.p T ?_
          refine RL.nil _ _ _ _ ?_
          refine hK13 _ _ _ ?_
          refine SW.cs (fun hc3 => ?_) (fun hc3 => ?_)
          ·skip
           first
            | (exfalso; first | omega | contradiction | (simp at *; done))
            | (
             refine SW.seq_k fun K14 hK14 => ?_
             refine SW.region _ _ _ _ ?_
             refine RL.s ?_
             first | refine NV.buildc T rfl (rfl : _ = some [_, _, _, _, _, _, _, _, _, _, _]) ?_ | refine NV.buildz T rfl (rfl : _ = some [_, _, _, _, _, _, _, _, _, _, _]) ?_ | refine NV.pure T (rfl : _ = some (Value.agg #[_, _, _, _, _, _, _, _, _, _, _])) ?_
             refine RL.s ?_
             refine NV.sN T rfl rfl rfl (by exact (rfl : _ = [_, _, _, _, _, _, _, _, _, _, _])) (by exact (rfl : _ = [_, _, _, _, _, _, _, _, _, _, _])) ?_
             refine RL.p T ?_
             refine RL.nil _ _ _ _ ?_
             refine hK14 _ _ _ ?_
             refine SW.sat (fun hs => ?_)
             refine SW.ret ?_
             refine retQ.rk (RVs.cN T rfl rfl rfl rfl (by exact (rfl : _ = [_, _, _, _, _, _, _, _, _, _, _])) (RVs.t RVs.nil)) ?_
             clear hK14 K14 hK13 K13 hK12 K12 hK10 K10 hK9 K9 hK8 K8 hK7 K7 hK5 K5 hK4 K4 hK2 K2 hK1 K1 hK0 K0
             have hdl : (es.drop 6).length = es.length - 6 := List.length_drop
             first
               | (rw [(oldE_short (by omega)).1, (oldE_short (by omega)).2]
                  first
                    | exact ⟨none, 0, 0, [_], rfl, rfl, Rd.nilS, rfl⟩
                    | exact ⟨none, 0, 0, [_, _], rfl, rfl, Rd.nilS, rfl⟩
                    | exact ⟨none, 0, 0, [_, _, _], rfl, rfl, Rd.nilS, rfl⟩)
               | (rw [(oldE_form (by omega) (by omega)).1, (oldE_form (by omega) (by omega)).2]
                  first
                    | exact ⟨none, 0, 0, [_], rfl, rfl, Rd.nilS, rfl⟩
                    | exact ⟨none, 0, 0, [_, _], rfl, rfl, Rd.nilS, rfl⟩
                    | exact ⟨none, 0, 0, [_, _, _], rfl, rfl, Rd.nilS, rfl⟩)
               | (rw [(oldE_less (by omega) (by omega) (by omega)).1, (oldE_less (by omega) (by omega) (by omega)).2]
                  first
                    | exact ⟨none, 0, 0, [_], rfl, rfl, Rd.nilS, rfl⟩
                    | exact ⟨none, 0, 0, [_, _], rfl, rfl, Rd.nilS, rfl⟩
                    | exact ⟨none, 0, 0, [_, _, _], rfl, rfl, Rd.nilS, rfl⟩)
               | (rw [(oldE_more (by omega) (by omega) (by omega)).1, (oldE_more (by omega) (by omega) (by omega)).2]
                  first
                    | exact ⟨none, 0, 0, [_], rfl, rfl, Rd.nilS, rfl⟩
                    | exact ⟨none, 0, 0, [_, _], rfl, rfl, Rd.nilS, rfl⟩
                    | exact ⟨none, 0, 0, [_, _, _], rfl, rfl, Rd.nilS, rfl⟩)
               | (rw [(oldE_chk (by omega) (by omega) (by omega) (by omega)).1, (oldE_chk (by omega) (by omega) (by omega) (by omega)).2]
                  first
                    | exact ⟨none, 0, 0, [_], rfl, rfl, Rd.nilS, rfl⟩
                    | exact ⟨none, 0, 0, [_, _], rfl, rfl, Rd.nilS, rfl⟩
                    | exact ⟨none, 0, 0, [_, _, _], rfl, rfl, Rd.nilS, rfl⟩)
               | (have ho := oldE_ok (es := es) (by omega) (by omega) (by omega) (by omega)
                  rw [ho.1, ho.2]
                  exact ⟨a0_, _, c0_, [_, _, _], rfl, (by show 0 + (n - 6) = (es.drop 6).length; omega), (Rd.rowh (satl (G := [_, _, _]) hs) (by repeat first | exact At.head _ _ | apply At.tail)), rfl⟩)
             )
          ·skip
           first
            | (exfalso; first | omega | contradiction | (simp at *; done))
            | (
             refine SW.skip ?_
             refine hK12 _ _ _ ?_
             refine SW.seq_k fun K15 hK15 => ?_
             refine SW.region _ _ _ _ ?_
             refine RL.bs T rfl rfl rfl (by exact (rfl : _ = some [])) (fun b85_2 => ?_)
             refine RL.p T ?_
             refine RL.sl T ?_ (l1 := 6)
             refine RL.apI (ki := .u8) (xs := []) (ys := es.drop 6) T (fun a0_ c0_ => ?_) (hR := fun hs => Rd.suf 6 (by repeat first | exact hR | apply Rd.cons | apply Rd.app) (by omega))
             refine RL.p T ?_
             refine RL.sv1 T ?_
             refine RL.nil _ _ _ _ ?_
             refine hK15 _ _ _ ?_
             refine SW.seq_k fun K16 hK16 => ?_
             refine SW.seq_k fun K17 hK17 => ?_
             refine SW.region _ _ _ _ ?_
             refine RL.q (QV.vN T rfl rfl rfl rfl rfl (by exact (rfl : _ = [_, _, _, _, _, _, _, _, _, _, _]))) ?_
             refine RL.c fun28 (fun hs => rfcheck (oldF es) a0_ (0 + (n - 6)) c0_ (Rd.rowh hs (by repeat first | exact At.head _ _ | apply At.tail)) (by show 0 + (n - 6) = (es.drop 6).length; rw [List.length_drop]; omega) (by omega) (oldS_ok hB 5)) ?_
             rintro _ _ ⟨rfl, e⟩; obtain rfl := e.symm
             refine RL.p T ?_
             refine RL.nil _ _ _ _ ?_
             refine hK17 _ _ _ ?_
             refine SW.cs (fun hc4 => ?_) (fun hc4 => ?_)
             ·skip
              first
               | (exfalso; first | omega | contradiction | (simp at *; done))
               | (
                refine SW.seq_k fun K18 hK18 => ?_
                refine SW.region _ _ _ _ ?_
                refine RL.s ?_
                first | refine NV.buildc T rfl (rfl : _ = some [_, _, _, _, _, _, _, _, _, _, _]) ?_ | refine NV.buildz T rfl (rfl : _ = some [_, _, _, _, _, _, _, _, _, _, _]) ?_ | refine NV.pure T (rfl : _ = some (Value.agg #[_, _, _, _, _, _, _, _, _, _, _])) ?_
                refine RL.s ?_
                refine NV.sN T rfl rfl rfl (by exact (rfl : _ = [_, _, _, _, _, _, _, _, _, _, _])) (by exact (rfl : _ = [_, _, _, _, _, _, _, _, _, _, _])) ?_
                refine RL.p T ?_
                refine RL.nil _ _ _ _ ?_
                refine hK18 _ _ _ ?_
                refine SW.sat (fun hs => ?_)
                refine SW.ret ?_
                refine retQ.rk (RVs.cN T rfl rfl rfl rfl (by exact (rfl : _ = [_, _, _, _, _, _, _, _, _, _, _])) (RVs.t RVs.nil)) ?_
                clear hK18 K18 hK17 K17 hK16 K16 hK15 K15 hK13 K13 hK12 K12 hK10 K10 hK9 K9 hK8 K8 hK7 K7 hK5 K5 hK4 K4 hK2 K2 hK1 K1 hK0 K0
                have hdl : (es.drop 6).length = es.length - 6 := List.length_drop
                first
                  | (rw [(oldE_short (by omega)).1, (oldE_short (by omega)).2]
                     first
                       | exact ⟨none, 0, 0, [_], rfl, rfl, Rd.nilS, rfl⟩
                       | exact ⟨none, 0, 0, [_, _], rfl, rfl, Rd.nilS, rfl⟩
                       | exact ⟨none, 0, 0, [_, _, _], rfl, rfl, Rd.nilS, rfl⟩)
                  | (rw [(oldE_form (by omega) (by omega)).1, (oldE_form (by omega) (by omega)).2]
                     first
                       | exact ⟨none, 0, 0, [_], rfl, rfl, Rd.nilS, rfl⟩
                       | exact ⟨none, 0, 0, [_, _], rfl, rfl, Rd.nilS, rfl⟩
                       | exact ⟨none, 0, 0, [_, _, _], rfl, rfl, Rd.nilS, rfl⟩)
                  | (rw [(oldE_less (by omega) (by omega) (by omega)).1, (oldE_less (by omega) (by omega) (by omega)).2]
                     first
                       | exact ⟨none, 0, 0, [_], rfl, rfl, Rd.nilS, rfl⟩
                       | exact ⟨none, 0, 0, [_, _], rfl, rfl, Rd.nilS, rfl⟩
                       | exact ⟨none, 0, 0, [_, _, _], rfl, rfl, Rd.nilS, rfl⟩)
                  | (rw [(oldE_more (by omega) (by omega) (by omega)).1, (oldE_more (by omega) (by omega) (by omega)).2]
                     first
                       | exact ⟨none, 0, 0, [_], rfl, rfl, Rd.nilS, rfl⟩
                       | exact ⟨none, 0, 0, [_, _], rfl, rfl, Rd.nilS, rfl⟩
                       | exact ⟨none, 0, 0, [_, _, _], rfl, rfl, Rd.nilS, rfl⟩)
                  | (rw [(oldE_chk (by omega) (by omega) (by omega) (by omega)).1, (oldE_chk (by omega) (by omega) (by omega) (by omega)).2]
                     first
                       | exact ⟨none, 0, 0, [_], rfl, rfl, Rd.nilS, rfl⟩
                       | exact ⟨none, 0, 0, [_, _], rfl, rfl, Rd.nilS, rfl⟩
                       | exact ⟨none, 0, 0, [_, _, _], rfl, rfl, Rd.nilS, rfl⟩)
                  | (have ho := oldE_ok (es := es) (by omega) (by omega) (by omega) (by omega)
                     rw [ho.1, ho.2]
                     exact ⟨a0_, _, c0_, [_, _, _], rfl, (by show 0 + (n - 6) = (es.drop 6).length; omega), (Rd.rowh (satl (G := [_, _, _]) hs) (by repeat first | exact At.head _ _ | apply At.tail)), rfl⟩)
                )
             ·skip
              first
               | (exfalso; first | omega | contradiction | (simp at *; done))
               | (
                refine SW.skip ?_
                refine hK16 _ _ _ ?_
                refine SW.seq_k fun K19 hK19 => ?_
                refine SW.region _ _ _ _ ?_
                refine RL.q (QV.vN T rfl rfl rfl rfl rfl (by exact (rfl : _ = [_, _, _, _, _, _, _, _, _, _, _]))) ?_
                refine RL.s ?_
                refine NV.sN T rfl rfl rfl (by exact (rfl : _ = [_, _, _, _, _, _, _, _, _, _, _])) (by exact (rfl : _ = [_, _, _, _, _, _, _, _, _, _, _])) ?_
                refine RL.p T ?_
                refine RL.nil _ _ _ _ ?_
                refine hK19 _ _ _ ?_
                refine SW.sat (fun hs => ?_)
                refine SW.ret ?_
                refine retQ.rk (RVs.cN T rfl rfl rfl rfl (by exact (rfl : _ = [_, _, _, _, _, _, _, _, _, _, _])) (RVs.t RVs.nil)) ?_
                clear hK19 K19 hK17 K17 hK16 K16 hK15 K15 hK13 K13 hK12 K12 hK10 K10 hK9 K9 hK8 K8 hK7 K7 hK5 K5 hK4 K4 hK2 K2 hK1 K1 hK0 K0
                have hdl : (es.drop 6).length = es.length - 6 := List.length_drop
                first
                  | (rw [(oldE_short (by omega)).1, (oldE_short (by omega)).2]
                     first
                       | exact ⟨none, 0, 0, [_], rfl, rfl, Rd.nilS, rfl⟩
                       | exact ⟨none, 0, 0, [_, _], rfl, rfl, Rd.nilS, rfl⟩
                       | exact ⟨none, 0, 0, [_, _, _], rfl, rfl, Rd.nilS, rfl⟩)
                  | (rw [(oldE_form (by omega) (by omega)).1, (oldE_form (by omega) (by omega)).2]
                     first
                       | exact ⟨none, 0, 0, [_], rfl, rfl, Rd.nilS, rfl⟩
                       | exact ⟨none, 0, 0, [_, _], rfl, rfl, Rd.nilS, rfl⟩
                       | exact ⟨none, 0, 0, [_, _, _], rfl, rfl, Rd.nilS, rfl⟩)
                  | (rw [(oldE_less (by omega) (by omega) (by omega)).1, (oldE_less (by omega) (by omega) (by omega)).2]
                     first
                       | exact ⟨none, 0, 0, [_], rfl, rfl, Rd.nilS, rfl⟩
                       | exact ⟨none, 0, 0, [_, _], rfl, rfl, Rd.nilS, rfl⟩
                       | exact ⟨none, 0, 0, [_, _, _], rfl, rfl, Rd.nilS, rfl⟩)
                  | (rw [(oldE_more (by omega) (by omega) (by omega)).1, (oldE_more (by omega) (by omega) (by omega)).2]
                     first
                       | exact ⟨none, 0, 0, [_], rfl, rfl, Rd.nilS, rfl⟩
                       | exact ⟨none, 0, 0, [_, _], rfl, rfl, Rd.nilS, rfl⟩
                       | exact ⟨none, 0, 0, [_, _, _], rfl, rfl, Rd.nilS, rfl⟩)
                  | (rw [(oldE_chk (by omega) (by omega) (by omega) (by omega)).1, (oldE_chk (by omega) (by omega) (by omega) (by omega)).2]
                     first
                       | exact ⟨none, 0, 0, [_], rfl, rfl, Rd.nilS, rfl⟩
                       | exact ⟨none, 0, 0, [_, _], rfl, rfl, Rd.nilS, rfl⟩
                       | exact ⟨none, 0, 0, [_, _, _], rfl, rfl, Rd.nilS, rfl⟩)
                  | (have ho := oldE_ok (es := es) (by omega) (by omega) (by omega) (by omega)
                     rw [ho.1, ho.2]
                     exact ⟨a0_, _, c0_, [_, _, _], rfl, (by show 0 + (n - 6) = (es.drop 6).length; omega), (Rd.rowh (satl (G := [_, _, _]) hs) (by repeat first | exact At.head _ _ | apply At.tail)), rfl⟩)
                )
             )
          )
       )
    )
theorem getold {w0 : World} {H : List Chunk} (sa : Option Addr) (n c : Nat) (es : List Int) (hR : Rd w0 H sa n c 1 (es.map (.int .u8))) (hn : n = es.length) (hm : n ≤ 140737488351232) (hB : Byte es) : SC Try.prog w0 11 #[.slice sa n c] H (FrV w0 H (oldR es) (oldE es)) := by
  by_cases h6 : es.length < 6
  · exact getold_short sa n c es hR hn hm hB h6
  · exact getold_main sa n c es hR hn hm hB (by omega)
end Go.Proofs.Ytecgicpimgghaaa.M
