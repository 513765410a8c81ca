import Derived.Test.YtecgicpimgghaaaProg
import Derived.Test.YtecgicpimgghaaaFD18
set_option linter.unusedVariables false
set_option linter.unusedSimpArgs false
namespace Go.Proofs.Ytecgicpimgghaaa.M
open Go Go.Sep Go.Proofs
set_option maxRecDepth 10000
set_option maxHeartbeats 2000000
theorem two_rng {a : Int} (ha : 0 ≤ a ∧ a ≤ 65535) (k : Nat) : 0 ≤ [a].getD k 0 ∧ [a].getD k 0 ≤ 65535 := by
  rcases k with _ | k
  · exact ha
  · simp
theorem puteth_t {w0 : World} {H : List Chunk} (x : Eth) (sa : Option Addr) (n c : Nat) (hR : Rd w0 H sa n c 1 (x.data.map (.int .u8))) (hn : n = x.data.length) (hm : n ≤ 140737488351) (he : EOk x) (ht : x.tagged = true) (hl : 14 + n + 4 ≤ 2048) : SC Try.prog w0 15 #[EA x sa n c] H (fun v H' => ∃ a c, v = .tuple #[.slice a (ethB x).length c, .int .i64 0] ∧ H' = .row a (ethB x).length c 5 1 ((ethB x).map (.int .u8)) :: H) := by
 refine SC.enter Try.func15 rfl (Nat.le_of_ble_eq_true rfl) ?_
 refine SW.seq_k fun K0 hK0 => ?_
 have hrt := he.tag
 have hry := he.typ
 have hbt := bi_rng he.byte
 refine SW.region _ _ _ _ ?_
 refine RL.s ?_
 refine NV.box rfl (by exact (rfl : _ = [_, _, _, _, _, _, _, _, _, _, _, _, _, _, _, _])) ?_
 intro b1_0
 refine RL.p T ?_
 refine RL.p T ?_
 refine RL.nil _ _ _ _ ?_
 refine hK0 _ _ _ ?_
 refine SW.seq_k fun K1 hK1 => ?_
 refine SW.region _ _ _ _ ?_
 refine RL.p T ?_
 refine RL.lv1 T ?_
 refine RL.p T ?_
 first | refine RL.ar ?_ | refine RL.p T ?_
 refine RL.p T ?_
 refine RL.nil _ _ _ _ ?_
 refine hK1 _ _ _ ?_
 refine SW.seq_k fun K2 hK2 => ?_
 refine SW.seq_k fun K3 hK3 => ?_
 refine SW.region _ _ _ _ ?_
 refine RL.p T ?_
 refine RL.lv1 T ?_
 refine RL.nil _ _ _ _ ?_
 refine hK3 _ _ _ ?_
 refine SW.cs (fun hc0 => ?_) (fun hc0 => ?_)
 ·skip
  first
   | (exfalso; clear hK3 K3; clear hK2 K2; clear hK1 K1; clear hK0 K0; first | omega | contradiction | (simp at *; done) | (simp_all; done))
   | (
    refine SW.region _ _ _ _ ?_
    refine RL.p T ?_
    first | refine RL.ar ?_ | refine RL.p T ?_
    refine RL.p T ?_
    refine RL.nil _ _ _ _ ?_
    refine hK2 _ _ _ ?_
    refine SW.seq_k fun K4 hK4 => ?_
    refine SW.seq_k fun K5 hK5 => ?_
    refine SW.region _ _ _ _ ?_
    refine RL.p T ?_
    refine RL.p T ?_
    refine RL.nil _ _ _ _ ?_
    refine hK5 _ _ _ ?_
    refine SW.cs (fun hc1 => ?_) (fun hc1 => ?_)
    ·skip
     first
      | (exfalso; clear hK5 K5; clear hK4 K4; clear hK3 K3; clear hK2 K2; clear hK1 K1; clear hK0 K0; first | omega | contradiction | (simp at *; done) | (simp_all; done))
      | (
       refine SW.seq_k fun K6 hK6 => ?_
       refine SW.region _ _ _ _ ?_
       refine RL.p T ?_
       refine RL.p T ?_
       refine RL.nil _ _ _ _ ?_
       refine hK6 _ _ _ ?_
       refine SW.ret ?_
       have hL : ((((([] ++ [bi x.t 0, bi x.t 1, bi x.t 2, bi x.t 3, bi x.t 4, bi x.t 5]) ++ [bi x.t 6, bi x.t 7, bi x.t 8, bi x.t 9, bi x.t 10, bi x.t 11]) ++ [33024, x.tag].flatMap two) ++ [x.typ].flatMap two) ++ x.data) = ethB x := by unfold ethB ethH; rw [ht]; rfl
       refine retQ.rr ((.row a9_ (0 + 6 + 6 + 2 * 2 + 2 * 1 + n) c9_ 5 1 (((((([] ++ [bi x.t 0, bi x.t 1, bi x.t 2, bi x.t 3, bi x.t 4, bi x.t 5]) ++ [bi x.t 6, bi x.t 7, bi x.t 8, bi x.t 9, bi x.t 10, bi x.t 11]) ++ [33024, x.tag].flatMap two) ++ [x.typ].flatMap two) ++ x.data).map (.int .u8)) :: H)) ?_
       clear hK6 K6 hK5 K5 hK4 K4 hK3 K3 hK2 K2 hK1 K1 hK0 K0
       have hol : (ethB x).length = 0 + 6 + 6 + 2 * 2 + 2 * 1 + n := by rw [ethB_len, ethL, ht, hn]; simp <;> omega
       exact ⟨a9_, c9_, by rw [hol]; rfl, by rw [hol, hL]⟩
       )
    ·skip
     first
      | (exfalso; clear hK5 K5; clear hK4 K4; clear hK3 K3; clear hK2 K2; clear hK1 K1; clear hK0 K0; first | omega | contradiction | (simp at *; done) | (simp_all; done))
      | (
       refine SW.skip ?_
       refine hK4 _ _ _ ?_
       refine SW.seq_k fun K7 hK7 => ?_
       refine SW.draw [(24, 0), (25, 1), (26, 2), (27, 3), (28, 4), (29, 5), (30, 6), (31, 7), (5, 8)] [[], [0], [], [2], [1, 0, 3, 2], [], [5], [4, 1, 0, 3, 2, 6, 5], [7, 4, 1, 0, 3, 2, 6, 5]] mixed (by kernel_rfl) (by kernel_rfl) ?_
       refine RD.p T ?_
       refine RD.p T ?_
       refine RD.q rfl rfl (Gd.none rfl) (QV.slA T rfl rfl rfl rfl) ?_
       refine RD.p T ?_
       refine RD.q rfl rfl (Gd.none rfl) (QV.slA T rfl rfl rfl rfl) ?_
       refine RD.nv rfl rfl rfl (Gd.none rfl) ?_
       refine NV.mkI T ?_ (n := 0) (c := 14 + n + 4)
       intro b25_1
       refine ⟨(Stab.cons rfl (Gd.none rfl) (QV.slA T rfl rfl rfl rfl) (Stab.cons rfl (Gd.none rfl) (pev_sound T rfl) (Stab.cons rfl (Gd.none rfl) (QV.slA T rfl rfl rfl rfl) (Stab.cons rfl (Gd.none rfl) (pev_sound T rfl) Stab.nil)))), ?_⟩
       refine RD.nv rfl rfl rfl (Gd.none rfl) ?_
       refine NV.apI (ki := .u8) (m := 6) (xs := []) (ys := [bi x.t 0, bi x.t 1, bi x.t 2, bi x.t 3, bi x.t 4, bi x.t 5]) T ?_ (hR := fun hs => Rd.var (n := 6) (c := 6) (by repeat first | exact At.head _ _ | apply At.tail) rfl rfl (by omega))
       intro a0_ c0_
       refine ⟨(Stab.cons rfl (Gd.none rfl) (QV.slA T rfl rfl rfl rfl) (Stab.cons rfl (Gd.none rfl) (pev_sound T rfl) Stab.nil)), ?_⟩
       refine RD.nv rfl rfl rfl (Gd.none rfl) ?_
       refine NV.apI (ki := .u8) (m := 6) (ys := [bi x.t 6, bi x.t 7, bi x.t 8, bi x.t 9, bi x.t 10, bi x.t 11]) T ?_ (hR := fun hs => Rd.var (n := 6) (c := 6) (by repeat first | exact At.head _ _ | apply At.tail) rfl rfl (by omega))
       intro a6_ c6_
       refine ⟨Stab.nil, ?_⟩
       refine RD.p T ?_
       refine RD.k rfl rfl ?_
       refine hK7 _ _ _ ?_
       refine SW.seq_k fun K8 hK8 => ?_
       refine SW.seq_k fun K9 hK9 => ?_
       refine SW.region _ _ _ _ ?_
       refine RL.p T ?_
       refine RL.lv1 T ?_
       refine RL.nil _ _ _ _ ?_
       refine hK9 _ _ _ ?_
       refine SW.cs (fun hc2 => ?_) (fun hc2 => ?_)
       ·skip
        first
         | (exfalso; clear hK9 K9; clear hK8 K8; clear hK7 K7; clear hK5 K5; clear hK4 K4; clear hK3 K3; clear hK2 K2; clear hK1 K1; clear hK0 K0; first | omega | contradiction | (simp at *; done) | (simp_all; done))
         | (
          refine SW.region _ _ _ _ ?_
          refine RL.p T ?_
          refine RL.p T ?_
          refine RL.lv1 T ?_
          refine RL.bs T rfl rfl rfl (by exact (rfl : _ = some [_, _])) (fun b37_2 => ?_)
          refine RL.c fun27 (fun hs => (SC.swap (put16 _ (0 + 6 + 6) _ (([] ++ [bi x.t 0, bi x.t 1, bi x.t 2, bi x.t 3, bi x.t 4, bi x.t 5]) ++ [bi x.t 6, bi x.t 7, bi x.t 8, bi x.t 9, bi x.t 10, bi x.t 11]) rfl (by omega) _ 2 2 [33024, x.tag] (Rd.rowh (sat2 hs) (At.head _ _)) rfl (by omega) (two_ok (by omega) (by omega))))) ?_
          rintro _ _ ⟨ap, cp, rfl, e⟩; obtain rfl := e.symm
          refine RL.p T ?_
          refine RL.nil _ _ _ _ ?_
          refine hK8 _ _ _ ?_
          refine SW.seq_k fun K10 hK10 => ?_
          refine SW.draw [(39, 0), (40, 1), (41, 2), (42, 3), (43, 4), (44, 5), (45, 6), (46, 7), (2, 8), (3, 9)] [[], [], [1], [2, 1], [0, 3, 2, 1], [], [5], [4, 0, 3, 2, 1, 6, 5], [7, 4, 0, 3, 2, 1, 6, 5], [8, 7, 4, 0, 3, 2, 1, 6, 5]] mixed (by kernel_rfl) (by kernel_rfl) ?_
          refine RD.p T ?_
          refine RD.p T ?_
          refine RD.q rfl rfl (Gd.none rfl) (QV.v1 T) ?_
          refine RD.p T ?_
          refine RD.q rfl rfl (Gd.none rfl) (QV.v1 T) ?_
          refine RD.nv rfl rfl rfl (Gd.none rfl) ?_
          refine NV.build1 T rfl (by conv => lhs; whnf) rfl rfl (by conv => lhs; whnf) (by exact (rfl : _ = some [_])) ?_
          intro b42_3
          refine ⟨(Stab.cons rfl (Gd.none rfl) (QV.v1 T) (Stab.cons rfl (Gd.none rfl) (pev_sound T rfl) (Stab.cons rfl (Gd.none rfl) (pev_sound T rfl) Stab.nil))), ?_⟩
          refine RD.nv rfl rfl rfl (Gd.none rfl) ?_
          refine NV.sat (fun hs => ?_) (fun c hc => by cases hc)
          refine NV.call rfl rfl rfl fun27 rfl rfl ((SC.swap (put16 _ (0 + 6 + 6 + 2 * 2) _ ((([] ++ [bi x.t 0, bi x.t 1, bi x.t 2, bi x.t 3, bi x.t 4, bi x.t 5]) ++ [bi x.t 6, bi x.t 7, bi x.t 8, bi x.t 9, bi x.t 10, bi x.t 11]) ++ [33024, x.tag].flatMap two) (by rfl) (by omega) _ 1 1 [x.typ] (Rd.rowh (sat2 hs) (At.head _ _)) rfl (by omega) (two_rng (by omega))))) ?_
          rintro _ _ ⟨aq, cq, rfl, e⟩; obtain rfl := e.symm
          refine ⟨(Stab.cons rfl (Gd.none rfl) (QV.v1 T) (Stab.cons rfl (Gd.none rfl) (pev_sound T rfl) Stab.nil)), ?_⟩
          refine RD.nv rfl rfl rfl (Gd.none rfl) ?_
          refine NV.apI (ki := .u8) T ?_ (hR := fun hs => (by repeat first | exact hR | apply Rd.cons | apply Rd.app))
          intro a9_ c9_
          refine ⟨Stab.nil, ?_⟩
          refine RD.p T ?_
          refine RD.p T ?_
          refine RD.k rfl rfl ?_
          refine hK10 _ _ _ ?_
          refine SW.ret ?_
          have hL : ((((([] ++ [bi x.t 0, bi x.t 1, bi x.t 2, bi x.t 3, bi x.t 4, bi x.t 5]) ++ [bi x.t 6, bi x.t 7, bi x.t 8, bi x.t 9, bi x.t 10, bi x.t 11]) ++ [33024, x.tag].flatMap two) ++ [x.typ].flatMap two) ++ x.data) = ethB x := by unfold ethB ethH; rw [ht]; rfl
          refine retQ.rr ((.row a9_ (0 + 6 + 6 + 2 * 2 + 2 * 1 + n) c9_ 5 1 (((((([] ++ [bi x.t 0, bi x.t 1, bi x.t 2, bi x.t 3, bi x.t 4, bi x.t 5]) ++ [bi x.t 6, bi x.t 7, bi x.t 8, bi x.t 9, bi x.t 10, bi x.t 11]) ++ [33024, x.tag].flatMap two) ++ [x.typ].flatMap two) ++ x.data).map (.int .u8)) :: H)) ?_
          clear hK10 K10 hK9 K9 hK8 K8 hK7 K7 hK5 K5 hK4 K4 hK3 K3 hK2 K2 hK1 K1 hK0 K0
          have hol : (ethB x).length = 0 + 6 + 6 + 2 * 2 + 2 * 1 + n := by rw [ethB_len, ethL, ht, hn]; simp <;> omega
          exact ⟨a9_, c9_, by rw [hol]; rfl, by rw [hol, hL]⟩
          )
       ·skip
        first
         | (exfalso; clear hK9 K9; clear hK8 K8; clear hK7 K7; clear hK5 K5; clear hK4 K4; clear hK3 K3; clear hK2 K2; clear hK1 K1; clear hK0 K0; first | omega | contradiction | (simp at *; done) | (simp_all; done))
         | (
          refine SW.skip ?_
          refine hK8 _ _ _ ?_
          refine SW.seq_k fun K11 hK11 => ?_
          refine SW.draw [(39, 0), (40, 1), (41, 2), (42, 3), (43, 4), (44, 5), (45, 6), (46, 7), (2, 8), (3, 9)] [[], [], [1], [2, 1], [0, 3, 2, 1], [], [5], [4, 0, 3, 2, 1, 6, 5], [7, 4, 0, 3, 2, 1, 6, 5], [8, 7, 4, 0, 3, 2, 1, 6, 5]] mixed (by kernel_rfl) (by kernel_rfl) ?_
          refine RD.p T ?_
          refine RD.p T ?_
          refine RD.q rfl rfl (Gd.none rfl) (QV.v1 T) ?_
          refine RD.p T ?_
          refine RD.q rfl rfl (Gd.none rfl) (QV.v1 T) ?_
          refine RD.nv rfl rfl rfl (Gd.none rfl) ?_
          refine NV.build1 T rfl (by conv => lhs; whnf) rfl rfl (by conv => lhs; whnf) (by exact (rfl : _ = some [_])) ?_
          intro b42_4
          refine ⟨(Stab.cons rfl (Gd.none rfl) (QV.v1 T) (Stab.cons rfl (Gd.none rfl) (pev_sound T rfl) (Stab.cons rfl (Gd.none rfl) (pev_sound T rfl) Stab.nil))), ?_⟩
          refine RD.nv rfl rfl rfl (Gd.none rfl) ?_
          refine NV.sat (fun hs => ?_) (fun c hc => by cases hc)
          refine NV.call rfl rfl rfl fun27 rfl rfl ((SC.swap (put16 _ (0 + 6 + 6 + 2 * 2) _ ((([] ++ [bi x.t 0, bi x.t 1, bi x.t 2, bi x.t 3, bi x.t 4, bi x.t 5]) ++ [bi x.t 6, bi x.t 7, bi x.t 8, bi x.t 9, bi x.t 10, bi x.t 11]) ++ [33024, x.tag].flatMap two) (by rfl) (by omega) _ 1 1 [x.typ] (Rd.rowh (sat2 hs) (At.head _ _)) rfl (by omega) (two_rng (by omega))))) ?_
          rintro _ _ ⟨aq, cq, rfl, e⟩; obtain rfl := e.symm
          refine ⟨(Stab.cons rfl (Gd.none rfl) (QV.v1 T) (Stab.cons rfl (Gd.none rfl) (pev_sound T rfl) Stab.nil)), ?_⟩
          refine RD.nv rfl rfl rfl (Gd.none rfl) ?_
          refine NV.apI (ki := .u8) T ?_ (hR := fun hs => (by repeat first | exact hR | apply Rd.cons | apply Rd.app))
          intro a9_ c9_
          refine ⟨Stab.nil, ?_⟩
          refine RD.p T ?_
          refine RD.p T ?_
          refine RD.k rfl rfl ?_
          refine hK11 _ _ _ ?_
          refine SW.ret ?_
          have hL : ((((([] ++ [bi x.t 0, bi x.t 1, bi x.t 2, bi x.t 3, bi x.t 4, bi x.t 5]) ++ [bi x.t 6, bi x.t 7, bi x.t 8, bi x.t 9, bi x.t 10, bi x.t 11]) ++ [33024, x.tag].flatMap two) ++ [x.typ].flatMap two) ++ x.data) = ethB x := by unfold ethB ethH; rw [ht]; rfl
          refine retQ.rr ((.row a9_ (0 + 6 + 6 + 2 * 2 + 2 * 1 + n) c9_ 5 1 (((((([] ++ [bi x.t 0, bi x.t 1, bi x.t 2, bi x.t 3, bi x.t 4, bi x.t 5]) ++ [bi x.t 6, bi x.t 7, bi x.t 8, bi x.t 9, bi x.t 10, bi x.t 11]) ++ [33024, x.tag].flatMap two) ++ [x.typ].flatMap two) ++ x.data).map (.int .u8)) :: H)) ?_
          clear hK11 K11 hK9 K9 hK8 K8 hK7 K7 hK5 K5 hK4 K4 hK3 K3 hK2 K2 hK1 K1 hK0 K0
          have hol : (ethB x).length = 0 + 6 + 6 + 2 * 2 + 2 * 1 + n := by rw [ethB_len, ethL, ht, hn]; simp <;> omega
          exact ⟨a9_, c9_, by rw [hol]; rfl, by rw [hol, hL]⟩
          )
       )
    )
 ·skip
  first
   | (exfalso; clear hK3 K3; clear hK2 K2; clear hK1 K1; clear hK0 K0; first | omega | contradiction | (simp at *; done) | (simp_all; done))
   | (
    refine SW.seq_k fun K12 hK12 => ?_
    refine SW.region _ _ _ _ ?_
    refine RL.p T ?_
    refine RL.lv1 T ?_
    refine RL.p T ?_
    refine RL.p T ?_
    refine RL.join (fr1 := ?_) 3 17 false [18, 19, 20] (fun hs0 hj => ?_) ?_ ?_
    rotate_left
    ·have hs0j := hs0
     try simp only [decide_eq_true_eq, Bool.not_eq_true', decide_eq_false_iff_not, Bool.not_eq_false', Int.not_lt, Int.not_le, Int.toNat_natCast, Bool.and_eq_true, Bool.or_eq_true, Bool.and_eq_false_iff, Bool.or_eq_false_iff] at hs0
     refine RL.p T ?_
     refine RL.lv1 T ?_
     refine RL.p T ?_
     exact hj
    ·repeat first | exact Mx.refl | exact Mx.mix | refine Mx.put rfl ?_ | refine Mx.upd rfl ?_ | refine Mx.updl rfl ?_ | refine Mx.fin rfl ?_ | refine Mx.inner rfl ?_ | refine Mx.none ?_
    refine RL.or ?_
    refine RL.nil _ _ _ _ ?_
    refine hK12 _ _ _ ?_
    refine SW.cs (fun hc3 => ?_) (fun hc3 => ?_)
    ·skip
     first
      | (exfalso; clear hK12 K12; clear hK3 K3; clear hK2 K2; clear hK1 K1; clear hK0 K0; first | omega | contradiction | (simp at *; done) | (simp_all; done))
      | (
       refine SW.seq_k fun K13 hK13 => ?_
       refine SW.region _ _ _ _ ?_
       refine RL.p T ?_
       refine RL.p T ?_
       refine RL.nil _ _ _ _ ?_
       refine hK13 _ _ _ ?_
       refine SW.ret ?_
       have hL : ((((([] ++ [bi x.t 0, bi x.t 1, bi x.t 2, bi x.t 3, bi x.t 4, bi x.t 5]) ++ [bi x.t 6, bi x.t 7, bi x.t 8, bi x.t 9, bi x.t 10, bi x.t 11]) ++ [33024, x.tag].flatMap two) ++ [x.typ].flatMap two) ++ x.data) = ethB x := by unfold ethB ethH; rw [ht]; rfl
       refine retQ.rr ((.row a9_ (0 + 6 + 6 + 2 * 2 + 2 * 1 + n) c9_ 5 1 (((((([] ++ [bi x.t 0, bi x.t 1, bi x.t 2, bi x.t 3, bi x.t 4, bi x.t 5]) ++ [bi x.t 6, bi x.t 7, bi x.t 8, bi x.t 9, bi x.t 10, bi x.t 11]) ++ [33024, x.tag].flatMap two) ++ [x.typ].flatMap two) ++ x.data).map (.int .u8)) :: H)) ?_
       clear hK13 K13 hK12 K12 hK3 K3 hK2 K2 hK1 K1 hK0 K0
       have hol : (ethB x).length = 0 + 6 + 6 + 2 * 2 + 2 * 1 + n := by rw [ethB_len, ethL, ht, hn]; simp <;> omega
       exact ⟨a9_, c9_, by rw [hol]; rfl, by rw [hol, hL]⟩
       )
    ·skip
     first
      | (exfalso; clear hK12 K12; clear hK3 K3; clear hK2 K2; clear hK1 K1; clear hK0 K0; first | omega | contradiction | (simp at *; done) | (simp_all; done))
      | (
       refine SW.skip ?_
       refine hK2 _ _ _ ?_
       refine SW.seq_k fun K14 hK14 => ?_
       refine SW.seq_k fun K15 hK15 => ?_
       refine SW.region _ _ _ _ ?_
       refine RL.p T ?_
       refine RL.p T ?_
       refine RL.nil _ _ _ _ ?_
       refine hK15 _ _ _ ?_
       refine SW.cs (fun hc4 => ?_) (fun hc4 => ?_)
       ·skip
        first
         | (exfalso; clear hK15 K15; clear hK14 K14; clear hK12 K12; clear hK3 K3; clear hK2 K2; clear hK1 K1; clear hK0 K0; first | omega | contradiction | (simp at *; done) | (simp_all; done))
         | (
          refine SW.seq_k fun K16 hK16 => ?_
          refine SW.region _ _ _ _ ?_
          refine RL.p T ?_
          refine RL.p T ?_
          refine RL.nil _ _ _ _ ?_
          refine hK16 _ _ _ ?_
          refine SW.ret ?_
          have hL : ((((([] ++ [bi x.t 0, bi x.t 1, bi x.t 2, bi x.t 3, bi x.t 4, bi x.t 5]) ++ [bi x.t 6, bi x.t 7, bi x.t 8, bi x.t 9, bi x.t 10, bi x.t 11]) ++ [33024, x.tag].flatMap two) ++ [x.typ].flatMap two) ++ x.data) = ethB x := by unfold ethB ethH; rw [ht]; rfl
          refine retQ.rr ((.row a9_ (0 + 6 + 6 + 2 * 2 + 2 * 1 + n) c9_ 5 1 (((((([] ++ [bi x.t 0, bi x.t 1, bi x.t 2, bi x.t 3, bi x.t 4, bi x.t 5]) ++ [bi x.t 6, bi x.t 7, bi x.t 8, bi x.t 9, bi x.t 10, bi x.t 11]) ++ [33024, x.tag].flatMap two) ++ [x.typ].flatMap two) ++ x.data).map (.int .u8)) :: H)) ?_
          clear hK16 K16 hK15 K15 hK14 K14 hK12 K12 hK3 K3 hK2 K2 hK1 K1 hK0 K0
          have hol : (ethB x).length = 0 + 6 + 6 + 2 * 2 + 2 * 1 + n := by rw [ethB_len, ethL, ht, hn]; simp <;> omega
          exact ⟨a9_, c9_, by rw [hol]; rfl, by rw [hol, hL]⟩
          )
       ·skip
        first
         | (exfalso; clear hK15 K15; clear hK14 K14; clear hK12 K12; clear hK3 K3; clear hK2 K2; clear hK1 K1; clear hK0 K0; first | omega | contradiction | (simp at *; done) | (simp_all; done))
         | (
          refine SW.skip ?_
          refine hK14 _ _ _ ?_
          refine SW.seq_k fun K17 hK17 => ?_
          refine SW.draw [(24, 0), (25, 1), (26, 2), (27, 3), (28, 4), (29, 5), (30, 6), (31, 7), (5, 8)] [[], [0], [], [2], [1, 0, 3, 2], [], [5], [4, 1, 0, 3, 2, 6, 5], [7, 4, 1, 0, 3, 2, 6, 5]] mixed (by kernel_rfl) (by kernel_rfl) ?_
          refine RD.p T ?_
          refine RD.p T ?_
          refine RD.q rfl rfl (Gd.none rfl) (QV.slA T rfl rfl rfl rfl) ?_
          refine RD.p T ?_
          refine RD.q rfl rfl (Gd.none rfl) (QV.slA T rfl rfl rfl rfl) ?_
          refine RD.nv rfl rfl rfl (Gd.none rfl) ?_
          refine NV.mkI T ?_ (n := 0) (c := 14 + n + 4)
          intro b25_5
          refine ⟨(Stab.cons rfl (Gd.none rfl) (QV.slA T rfl rfl rfl rfl) (Stab.cons rfl (Gd.none rfl) (pev_sound T rfl) (Stab.cons rfl (Gd.none rfl) (QV.slA T rfl rfl rfl rfl) (Stab.cons rfl (Gd.none rfl) (pev_sound T rfl) Stab.nil)))), ?_⟩
          refine RD.nv rfl rfl rfl (Gd.none rfl) ?_
          refine NV.apI (ki := .u8) (m := 6) (xs := []) (ys := [bi x.t 0, bi x.t 1, bi x.t 2, bi x.t 3, bi x.t 4, bi x.t 5]) T ?_ (hR := fun hs => Rd.var (n := 6) (c := 6) (by repeat first | exact At.head _ _ | apply At.tail) rfl rfl (by omega))
          intro a0_ c0_
          refine ⟨(Stab.cons rfl (Gd.none rfl) (QV.slA T rfl rfl rfl rfl) (Stab.cons rfl (Gd.none rfl) (pev_sound T rfl) Stab.nil)), ?_⟩
          refine RD.nv rfl rfl rfl (Gd.none rfl) ?_
          refine NV.apI (ki := .u8) (m := 6) (ys := [bi x.t 6, bi x.t 7, bi x.t 8, bi x.t 9, bi x.t 10, bi x.t 11]) T ?_ (hR := fun hs => Rd.var (n := 6) (c := 6) (by repeat first | exact At.head _ _ | apply At.tail) rfl rfl (by omega))
          intro a6_ c6_
          refine ⟨Stab.nil, ?_⟩
          refine RD.p T ?_
          refine RD.k rfl rfl ?_
          refine hK17 _ _ _ ?_
          refine SW.seq_k fun K18 hK18 => ?_
          refine SW.seq_k fun K19 hK19 => ?_
          refine SW.region _ _ _ _ ?_
          refine RL.p T ?_
          refine RL.lv1 T ?_
          refine RL.nil _ _ _ _ ?_
          refine hK19 _ _ _ ?_
          refine SW.cs (fun hc5 => ?_) (fun hc5 => ?_)
          ·skip
           first
            | (exfalso; clear hK19 K19; clear hK18 K18; clear hK17 K17; clear hK15 K15; clear hK14 K14; clear hK12 K12; clear hK3 K3; clear hK2 K2; clear hK1 K1; clear hK0 K0; first | omega | contradiction | (simp at *; done) | (simp_all; done))
            | (
             refine SW.region _ _ _ _ ?_
             refine RL.p T ?_
             refine RL.p T ?_
             refine RL.lv1 T ?_
             refine RL.bs T rfl rfl rfl (by exact (rfl : _ = some [_, _])) (fun b37_6 => ?_)
             refine RL.c fun27 (fun hs => (SC.swap (put16 _ (0 + 6 + 6) _ (([] ++ [bi x.t 0, bi x.t 1, bi x.t 2, bi x.t 3, bi x.t 4, bi x.t 5]) ++ [bi x.t 6, bi x.t 7, bi x.t 8, bi x.t 9, bi x.t 10, bi x.t 11]) rfl (by omega) _ 2 2 [33024, x.tag] (Rd.rowh (sat2 hs) (At.head _ _)) rfl (by omega) (two_ok (by omega) (by omega))))) ?_
             rintro _ _ ⟨ap, cp, rfl, e⟩; obtain rfl := e.symm
             refine RL.p T ?_
             refine RL.nil _ _ _ _ ?_
             refine hK18 _ _ _ ?_
             refine SW.seq_k fun K20 hK20 => ?_
             refine SW.draw [(39, 0), (40, 1), (41, 2), (42, 3), (43, 4), (44, 5), (45, 6), (46, 7), (2, 8), (3, 9)] [[], [], [1], [2, 1], [0, 3, 2, 1], [], [5], [4, 0, 3, 2, 1, 6, 5], [7, 4, 0, 3, 2, 1, 6, 5], [8, 7, 4, 0, 3, 2, 1, 6, 5]] mixed (by kernel_rfl) (by kernel_rfl) ?_
             refine RD.p T ?_
             refine RD.p T ?_
             refine RD.q rfl rfl (Gd.none rfl) (QV.v1 T) ?_
             refine RD.p T ?_
             refine RD.q rfl rfl (Gd.none rfl) (QV.v1 T) ?_
             refine RD.nv rfl rfl rfl (Gd.none rfl) ?_
             refine NV.build1 T rfl (by conv => lhs; whnf) rfl rfl (by conv => lhs; whnf) (by exact (rfl : _ = some [_])) ?_
             intro b42_7
             refine ⟨(Stab.cons rfl (Gd.none rfl) (QV.v1 T) (Stab.cons rfl (Gd.none rfl) (pev_sound T rfl) (Stab.cons rfl (Gd.none rfl) (pev_sound T rfl) Stab.nil))), ?_⟩
             refine RD.nv rfl rfl rfl (Gd.none rfl) ?_
             refine NV.sat (fun hs => ?_) (fun c hc => by cases hc)
             refine NV.call rfl rfl rfl fun27 rfl rfl ((SC.swap (put16 _ (0 + 6 + 6 + 2 * 2) _ ((([] ++ [bi x.t 0, bi x.t 1, bi x.t 2, bi x.t 3, bi x.t 4, bi x.t 5]) ++ [bi x.t 6, bi x.t 7, bi x.t 8, bi x.t 9, bi x.t 10, bi x.t 11]) ++ [33024, x.tag].flatMap two) (by rfl) (by omega) _ 1 1 [x.typ] (Rd.rowh (sat2 hs) (At.head _ _)) rfl (by omega) (two_rng (by omega))))) ?_
             rintro _ _ ⟨aq, cq, rfl, e⟩; obtain rfl := e.symm
             refine ⟨(Stab.cons rfl (Gd.none rfl) (QV.v1 T) (Stab.cons rfl (Gd.none rfl) (pev_sound T rfl) Stab.nil)), ?_⟩
             refine RD.nv rfl rfl rfl (Gd.none rfl) ?_
             refine NV.apI (ki := .u8) T ?_ (hR := fun hs => (by repeat first | exact hR | apply Rd.cons | apply Rd.app))
             intro a9_ c9_
             refine ⟨Stab.nil, ?_⟩
             refine RD.p T ?_
             refine RD.p T ?_
             refine RD.k rfl rfl ?_
             refine hK20 _ _ _ ?_
             refine SW.ret ?_
             have hL : ((((([] ++ [bi x.t 0, bi x.t 1, bi x.t 2, bi x.t 3, bi x.t 4, bi x.t 5]) ++ [bi x.t 6, bi x.t 7, bi x.t 8, bi x.t 9, bi x.t 10, bi x.t 11]) ++ [33024, x.tag].flatMap two) ++ [x.typ].flatMap two) ++ x.data) = ethB x := by unfold ethB ethH; rw [ht]; rfl
             refine retQ.rr ((.row a9_ (0 + 6 + 6 + 2 * 2 + 2 * 1 + n) c9_ 5 1 (((((([] ++ [bi x.t 0, bi x.t 1, bi x.t 2, bi x.t 3, bi x.t 4, bi x.t 5]) ++ [bi x.t 6, bi x.t 7, bi x.t 8, bi x.t 9, bi x.t 10, bi x.t 11]) ++ [33024, x.tag].flatMap two) ++ [x.typ].flatMap two) ++ x.data).map (.int .u8)) :: H)) ?_
             clear hK20 K20 hK19 K19 hK18 K18 hK17 K17 hK15 K15 hK14 K14 hK12 K12 hK3 K3 hK2 K2 hK1 K1 hK0 K0
             have hol : (ethB x).length = 0 + 6 + 6 + 2 * 2 + 2 * 1 + n := by rw [ethB_len, ethL, ht, hn]; simp <;> omega
             exact ⟨a9_, c9_, by rw [hol]; rfl, by rw [hol, hL]⟩
             )
          ·skip
           first
            | (exfalso; clear hK19 K19; clear hK18 K18; clear hK17 K17; clear hK15 K15; clear hK14 K14; clear hK12 K12; clear hK3 K3; clear hK2 K2; clear hK1 K1; clear hK0 K0; first | omega | contradiction | (simp at *; done) | (simp_all; done))
            | (
             refine SW.skip ?_
             refine hK18 _ _ _ ?_
             refine SW.seq_k fun K21 hK21 => ?_
             refine SW.draw [(39, 0), (40, 1), (41, 2), (42, 3), (43, 4), (44, 5), (45, 6), (46, 7), (2, 8), (3, 9)] [[], [], [1], [2, 1], [0, 3, 2, 1], [], [5], [4, 0, 3, 2, 1, 6, 5], [7, 4, 0, 3, 2, 1, 6, 5], [8, 7, 4, 0, 3, 2, 1, 6, 5]] mixed (by kernel_rfl) (by kernel_rfl) ?_
             refine RD.p T ?_
             refine RD.p T ?_
             refine RD.q rfl rfl (Gd.none rfl) (QV.v1 T) ?_
             refine RD.p T ?_
             refine RD.q rfl rfl (Gd.none rfl) (QV.v1 T) ?_
             refine RD.nv rfl rfl rfl (Gd.none rfl) ?_
             refine NV.build1 T rfl (by conv => lhs; whnf) rfl rfl (by conv => lhs; whnf) (by exact (rfl : _ = some [_])) ?_
             intro b42_8
             refine ⟨(Stab.cons rfl (Gd.none rfl) (QV.v1 T) (Stab.cons rfl (Gd.none rfl) (pev_sound T rfl) (Stab.cons rfl (Gd.none rfl) (pev_sound T rfl) Stab.nil))), ?_⟩
             refine RD.nv rfl rfl rfl (Gd.none rfl) ?_
             refine NV.sat (fun hs => ?_) (fun c hc => by cases hc)
             refine NV.call rfl rfl rfl fun27 rfl rfl ((SC.swap (put16 _ (0 + 6 + 6 + 2 * 2) _ ((([] ++ [bi x.t 0, bi x.t 1, bi x.t 2, bi x.t 3, bi x.t 4, bi x.t 5]) ++ [bi x.t 6, bi x.t 7, bi x.t 8, bi x.t 9, bi x.t 10, bi x.t 11]) ++ [33024, x.tag].flatMap two) (by rfl) (by omega) _ 1 1 [x.typ] (Rd.rowh (sat2 hs) (At.head _ _)) rfl (by omega) (two_rng (by omega))))) ?_
             rintro _ _ ⟨aq, cq, rfl, e⟩; obtain rfl := e.symm
             refine ⟨(Stab.cons rfl (Gd.none rfl) (QV.v1 T) (Stab.cons rfl (Gd.none rfl) (pev_sound T rfl) Stab.nil)), ?_⟩
             refine RD.nv rfl rfl rfl (Gd.none rfl) ?_
             refine NV.apI (ki := .u8) T ?_ (hR := fun hs => (by repeat first | exact hR | apply Rd.cons | apply Rd.app))
             intro a9_ c9_
             refine ⟨Stab.nil, ?_⟩
             refine RD.p T ?_
             refine RD.p T ?_
             refine RD.k rfl rfl ?_
             refine hK21 _ _ _ ?_
             refine SW.ret ?_
             have hL : ((((([] ++ [bi x.t 0, bi x.t 1, bi x.t 2, bi x.t 3, bi x.t 4, bi x.t 5]) ++ [bi x.t 6, bi x.t 7, bi x.t 8, bi x.t 9, bi x.t 10, bi x.t 11]) ++ [33024, x.tag].flatMap two) ++ [x.typ].flatMap two) ++ x.data) = ethB x := by unfold ethB ethH; rw [ht]; rfl
             refine retQ.rr ((.row a9_ (0 + 6 + 6 + 2 * 2 + 2 * 1 + n) c9_ 5 1 (((((([] ++ [bi x.t 0, bi x.t 1, bi x.t 2, bi x.t 3, bi x.t 4, bi x.t 5]) ++ [bi x.t 6, bi x.t 7, bi x.t 8, bi x.t 9, bi x.t 10, bi x.t 11]) ++ [33024, x.tag].flatMap two) ++ [x.typ].flatMap two) ++ x.data).map (.int .u8)) :: H)) ?_
             clear hK21 K21 hK19 K19 hK18 K18 hK17 K17 hK15 K15 hK14 K14 hK12 K12 hK3 K3 hK2 K2 hK1 K1 hK0 K0
             have hol : (ethB x).length = 0 + 6 + 6 + 2 * 2 + 2 * 1 + n := by rw [ethB_len, ethL, ht, hn]; simp <;> omega
             exact ⟨a9_, c9_, by rw [hol]; rfl, by rw [hol, hL]⟩
             )
          )
       )
    )
theorem puteth_f {w0 : World} {H : List Chunk} (x : Eth) (sa : Option Addr) (n c : Nat) (hR : Rd w0 H sa n c 1 (x.data.map (.int .u8))) (hn : n = x.data.length) (hm : n ≤ 140737488351) (he : EOk x) (ht : x.tagged = false) (hl : 14 + n + 0 ≤ 2048) (hz : x.tag = 0 ∧ x.typ ≠ 33024) : SC Try.prog w0 15 #[EA x sa n c] H (fun v H' => ∃ a c, v = .tuple #[.slice a (ethB x).length c, .int .i64 0] ∧ H' = .row a (ethB x).length c 5 1 ((ethB x).map (.int .u8)) :: H) := by
 refine SC.enter Try.func15 rfl (Nat.le_of_ble_eq_true rfl) ?_
 refine SW.seq_k fun K0 hK0 => ?_
 have hrt := he.tag
 have hry := he.typ
 have hbt := bi_rng he.byte
 refine SW.region _ _ _ _ ?_
 refine RL.s ?_
 refine NV.box rfl (by exact (rfl : _ = [_, _, _, _, _, _, _, _, _, _, _, _, _, _, _, _])) ?_
 intro b1_0
 refine RL.p T ?_
 refine RL.p T ?_
 refine RL.nil _ _ _ _ ?_
 refine hK0 _ _ _ ?_
 refine SW.seq_k fun K1 hK1 => ?_
 refine SW.region _ _ _ _ ?_
 refine RL.p T ?_
 refine RL.lv1 T ?_
 refine RL.p T ?_
 first | refine RL.ar ?_ | refine RL.p T ?_
 refine RL.p T ?_
 refine RL.nil _ _ _ _ ?_
 refine hK1 _ _ _ ?_
 refine SW.seq_k fun K2 hK2 => ?_
 refine SW.seq_k fun K3 hK3 => ?_
 refine SW.region _ _ _ _ ?_
 refine RL.p T ?_
 refine RL.lv1 T ?_
 refine RL.nil _ _ _ _ ?_
 refine hK3 _ _ _ ?_
 refine SW.cs (fun hc0 => ?_) (fun hc0 => ?_)
 ·skip
  first
   | (exfalso; clear hK3 K3; clear hK2 K2; clear hK1 K1; clear hK0 K0; first | omega | contradiction | (simp at *; done) | (simp_all; done))
   | (
    refine SW.region _ _ _ _ ?_
    refine RL.p T ?_
    first | refine RL.ar ?_ | refine RL.p T ?_
    refine RL.p T ?_
    refine RL.nil _ _ _ _ ?_
    refine hK2 _ _ _ ?_
    refine SW.seq_k fun K4 hK4 => ?_
    refine SW.seq_k fun K5 hK5 => ?_
    refine SW.region _ _ _ _ ?_
    refine RL.p T ?_
    refine RL.p T ?_
    refine RL.nil _ _ _ _ ?_
    refine hK5 _ _ _ ?_
    refine SW.cs (fun hc1 => ?_) (fun hc1 => ?_)
    ·skip
     first
      | (exfalso; clear hK5 K5; clear hK4 K4; clear hK3 K3; clear hK2 K2; clear hK1 K1; clear hK0 K0; first | omega | contradiction | (simp at *; done) | (simp_all; done))
      | (
       refine SW.seq_k fun K6 hK6 => ?_
       refine SW.region _ _ _ _ ?_
       refine RL.p T ?_
       refine RL.p T ?_
       refine RL.nil _ _ _ _ ?_
       refine hK6 _ _ _ ?_
       refine SW.ret ?_
       have hL : (((([] ++ [bi x.t 0, bi x.t 1, bi x.t 2, bi x.t 3, bi x.t 4, bi x.t 5]) ++ [bi x.t 6, bi x.t 7, bi x.t 8, bi x.t 9, bi x.t 10, bi x.t 11]) ++ [x.typ].flatMap two) ++ x.data) = ethB x := by unfold ethB ethH; rw [ht]; rfl
       refine retQ.rr ((.row a9_ (0 + 6 + 6 + 2 * 1 + n) c9_ 5 1 ((((([] ++ [bi x.t 0, bi x.t 1, bi x.t 2, bi x.t 3, bi x.t 4, bi x.t 5]) ++ [bi x.t 6, bi x.t 7, bi x.t 8, bi x.t 9, bi x.t 10, bi x.t 11]) ++ [x.typ].flatMap two) ++ x.data).map (.int .u8)) :: H)) ?_
       clear hK6 K6 hK5 K5 hK4 K4 hK3 K3 hK2 K2 hK1 K1 hK0 K0
       have hol : (ethB x).length = 0 + 6 + 6 + 2 * 1 + n := by rw [ethB_len, ethL, ht, hn]; simp <;> omega
       exact ⟨a9_, c9_, by rw [hol]; rfl, by rw [hol, hL]⟩
       )
    ·skip
     first
      | (exfalso; clear hK5 K5; clear hK4 K4; clear hK3 K3; clear hK2 K2; clear hK1 K1; clear hK0 K0; first | omega | contradiction | (simp at *; done) | (simp_all; done))
      | (
       refine SW.skip ?_
       refine hK4 _ _ _ ?_
       refine SW.seq_k fun K7 hK7 => ?_
       refine SW.draw [(24, 0), (25, 1), (26, 2), (27, 3), (28, 4), (29, 5), (30, 6), (31, 7), (5, 8)] [[], [0], [], [2], [1, 0, 3, 2], [], [5], [4, 1, 0, 3, 2, 6, 5], [7, 4, 1, 0, 3, 2, 6, 5]] mixed (by kernel_rfl) (by kernel_rfl) ?_
       refine RD.p T ?_
       refine RD.p T ?_
       refine RD.q rfl rfl (Gd.none rfl) (QV.slA T rfl rfl rfl rfl) ?_
       refine RD.p T ?_
       refine RD.q rfl rfl (Gd.none rfl) (QV.slA T rfl rfl rfl rfl) ?_
       refine RD.nv rfl rfl rfl (Gd.none rfl) ?_
       refine NV.mkI T ?_ (n := 0) (c := 14 + n)
       intro b25_1
       refine ⟨(Stab.cons rfl (Gd.none rfl) (QV.slA T rfl rfl rfl rfl) (Stab.cons rfl (Gd.none rfl) (pev_sound T rfl) (Stab.cons rfl (Gd.none rfl) (QV.slA T rfl rfl rfl rfl) (Stab.cons rfl (Gd.none rfl) (pev_sound T rfl) Stab.nil)))), ?_⟩
       refine RD.nv rfl rfl rfl (Gd.none rfl) ?_
       refine NV.apI (ki := .u8) (m := 6) (xs := []) (ys := [bi x.t 0, bi x.t 1, bi x.t 2, bi x.t 3, bi x.t 4, bi x.t 5]) T ?_ (hR := fun hs => Rd.var (n := 6) (c := 6) (by repeat first | exact At.head _ _ | apply At.tail) rfl rfl (by omega))
       intro a0_ c0_
       refine ⟨(Stab.cons rfl (Gd.none rfl) (QV.slA T rfl rfl rfl rfl) (Stab.cons rfl (Gd.none rfl) (pev_sound T rfl) Stab.nil)), ?_⟩
       refine RD.nv rfl rfl rfl (Gd.none rfl) ?_
       refine NV.apI (ki := .u8) (m := 6) (ys := [bi x.t 6, bi x.t 7, bi x.t 8, bi x.t 9, bi x.t 10, bi x.t 11]) T ?_ (hR := fun hs => Rd.var (n := 6) (c := 6) (by repeat first | exact At.head _ _ | apply At.tail) rfl rfl (by omega))
       intro a6_ c6_
       refine ⟨Stab.nil, ?_⟩
       refine RD.p T ?_
       refine RD.k rfl rfl ?_
       refine hK7 _ _ _ ?_
       refine SW.seq_k fun K8 hK8 => ?_
       refine SW.seq_k fun K9 hK9 => ?_
       refine SW.region _ _ _ _ ?_
       refine RL.p T ?_
       refine RL.lv1 T ?_
       refine RL.nil _ _ _ _ ?_
       refine hK9 _ _ _ ?_
       refine SW.cs (fun hc2 => ?_) (fun hc2 => ?_)
       ·skip
        first
         | (exfalso; clear hK9 K9; clear hK8 K8; clear hK7 K7; clear hK5 K5; clear hK4 K4; clear hK3 K3; clear hK2 K2; clear hK1 K1; clear hK0 K0; first | omega | contradiction | (simp at *; done) | (simp_all; done))
         | (
          refine SW.region _ _ _ _ ?_
          refine RL.p T ?_
          refine RL.p T ?_
          refine RL.lv1 T ?_
          refine RL.bs T rfl rfl rfl (by exact (rfl : _ = some [_, _])) (fun b37_2 => ?_)
          refine RL.c fun27 (fun hs => (SC.swap (put16 _ (0 + 6 + 6) _ (([] ++ [bi x.t 0, bi x.t 1, bi x.t 2, bi x.t 3, bi x.t 4, bi x.t 5]) ++ [bi x.t 6, bi x.t 7, bi x.t 8, bi x.t 9, bi x.t 10, bi x.t 11]) rfl (by omega) _ 2 2 [33024, x.tag] (Rd.rowh (sat2 hs) (At.head _ _)) rfl (by omega) (two_ok (by omega) (by omega))))) ?_
          rintro _ _ ⟨ap, cp, rfl, e⟩; obtain rfl := e.symm
          refine RL.p T ?_
          refine RL.nil _ _ _ _ ?_
          refine hK8 _ _ _ ?_
          refine SW.seq_k fun K10 hK10 => ?_
          refine SW.draw [(39, 0), (40, 1), (41, 2), (42, 3), (43, 4), (44, 5), (45, 6), (46, 7), (2, 8), (3, 9)] [[], [], [1], [2, 1], [0, 3, 2, 1], [], [5], [4, 0, 3, 2, 1, 6, 5], [7, 4, 0, 3, 2, 1, 6, 5], [8, 7, 4, 0, 3, 2, 1, 6, 5]] mixed (by kernel_rfl) (by kernel_rfl) ?_
          refine RD.p T ?_
          refine RD.p T ?_
          refine RD.q rfl rfl (Gd.none rfl) (QV.v1 T) ?_
          refine RD.p T ?_
          refine RD.q rfl rfl (Gd.none rfl) (QV.v1 T) ?_
          refine RD.nv rfl rfl rfl (Gd.none rfl) ?_
          refine NV.build1 T rfl (by conv => lhs; whnf) rfl rfl (by conv => lhs; whnf) (by exact (rfl : _ = some [_])) ?_
          intro b42_3
          refine ⟨(Stab.cons rfl (Gd.none rfl) (QV.v1 T) (Stab.cons rfl (Gd.none rfl) (pev_sound T rfl) (Stab.cons rfl (Gd.none rfl) (pev_sound T rfl) Stab.nil))), ?_⟩
          refine RD.nv rfl rfl rfl (Gd.none rfl) ?_
          refine NV.sat (fun hs => ?_) (fun c hc => by cases hc)
          refine NV.call rfl rfl rfl fun27 rfl rfl ((SC.swap (put16 _ (0 + 6 + 6) _ (([] ++ [bi x.t 0, bi x.t 1, bi x.t 2, bi x.t 3, bi x.t 4, bi x.t 5]) ++ [bi x.t 6, bi x.t 7, bi x.t 8, bi x.t 9, bi x.t 10, bi x.t 11]) (by rfl) (by omega) _ 1 1 [x.typ] (Rd.rowh (sat2 hs) (At.head _ _)) rfl (by omega) (two_rng (by omega))))) ?_
          rintro _ _ ⟨aq, cq, rfl, e⟩; obtain rfl := e.symm
          refine ⟨(Stab.cons rfl (Gd.none rfl) (QV.v1 T) (Stab.cons rfl (Gd.none rfl) (pev_sound T rfl) Stab.nil)), ?_⟩
          refine RD.nv rfl rfl rfl (Gd.none rfl) ?_
          refine NV.apI (ki := .u8) T ?_ (hR := fun hs => (by repeat first | exact hR | apply Rd.cons | apply Rd.app))
          intro a9_ c9_
          refine ⟨Stab.nil, ?_⟩
          refine RD.p T ?_
          refine RD.p T ?_
          refine RD.k rfl rfl ?_
          refine hK10 _ _ _ ?_
          refine SW.ret ?_
          have hL : (((([] ++ [bi x.t 0, bi x.t 1, bi x.t 2, bi x.t 3, bi x.t 4, bi x.t 5]) ++ [bi x.t 6, bi x.t 7, bi x.t 8, bi x.t 9, bi x.t 10, bi x.t 11]) ++ [x.typ].flatMap two) ++ x.data) = ethB x := by unfold ethB ethH; rw [ht]; rfl
          refine retQ.rr ((.row a9_ (0 + 6 + 6 + 2 * 1 + n) c9_ 5 1 ((((([] ++ [bi x.t 0, bi x.t 1, bi x.t 2, bi x.t 3, bi x.t 4, bi x.t 5]) ++ [bi x.t 6, bi x.t 7, bi x.t 8, bi x.t 9, bi x.t 10, bi x.t 11]) ++ [x.typ].flatMap two) ++ x.data).map (.int .u8)) :: H)) ?_
          clear hK10 K10 hK9 K9 hK8 K8 hK7 K7 hK5 K5 hK4 K4 hK3 K3 hK2 K2 hK1 K1 hK0 K0
          have hol : (ethB x).length = 0 + 6 + 6 + 2 * 1 + n := by rw [ethB_len, ethL, ht, hn]; simp <;> omega
          exact ⟨a9_, c9_, by rw [hol]; rfl, by rw [hol, hL]⟩
          )
       ·skip
        first
         | (exfalso; clear hK9 K9; clear hK8 K8; clear hK7 K7; clear hK5 K5; clear hK4 K4; clear hK3 K3; clear hK2 K2; clear hK1 K1; clear hK0 K0; first | omega | contradiction | (simp at *; done) | (simp_all; done))
         | (
          refine SW.skip ?_
          refine hK8 _ _ _ ?_
          refine SW.seq_k fun K11 hK11 => ?_
          refine SW.draw [(39, 0), (40, 1), (41, 2), (42, 3), (43, 4), (44, 5), (45, 6), (46, 7), (2, 8), (3, 9)] [[], [], [1], [2, 1], [0, 3, 2, 1], [], [5], [4, 0, 3, 2, 1, 6, 5], [7, 4, 0, 3, 2, 1, 6, 5], [8, 7, 4, 0, 3, 2, 1, 6, 5]] mixed (by kernel_rfl) (by kernel_rfl) ?_
          refine RD.p T ?_
          refine RD.p T ?_
          refine RD.q rfl rfl (Gd.none rfl) (QV.v1 T) ?_
          refine RD.p T ?_
          refine RD.q rfl rfl (Gd.none rfl) (QV.v1 T) ?_
          refine RD.nv rfl rfl rfl (Gd.none rfl) ?_
          refine NV.build1 T rfl (by conv => lhs; whnf) rfl rfl (by conv => lhs; whnf) (by exact (rfl : _ = some [_])) ?_
          intro b42_4
          refine ⟨(Stab.cons rfl (Gd.none rfl) (QV.v1 T) (Stab.cons rfl (Gd.none rfl) (pev_sound T rfl) (Stab.cons rfl (Gd.none rfl) (pev_sound T rfl) Stab.nil))), ?_⟩
          refine RD.nv rfl rfl rfl (Gd.none rfl) ?_
          refine NV.sat (fun hs => ?_) (fun c hc => by cases hc)
          refine NV.call rfl rfl rfl fun27 rfl rfl ((SC.swap (put16 _ (0 + 6 + 6) _ (([] ++ [bi x.t 0, bi x.t 1, bi x.t 2, bi x.t 3, bi x.t 4, bi x.t 5]) ++ [bi x.t 6, bi x.t 7, bi x.t 8, bi x.t 9, bi x.t 10, bi x.t 11]) (by rfl) (by omega) _ 1 1 [x.typ] (Rd.rowh (sat2 hs) (At.head _ _)) rfl (by omega) (two_rng (by omega))))) ?_
          rintro _ _ ⟨aq, cq, rfl, e⟩; obtain rfl := e.symm
          refine ⟨(Stab.cons rfl (Gd.none rfl) (QV.v1 T) (Stab.cons rfl (Gd.none rfl) (pev_sound T rfl) Stab.nil)), ?_⟩
          refine RD.nv rfl rfl rfl (Gd.none rfl) ?_
          refine NV.apI (ki := .u8) T ?_ (hR := fun hs => (by repeat first | exact hR | apply Rd.cons | apply Rd.app))
          intro a9_ c9_
          refine ⟨Stab.nil, ?_⟩
          refine RD.p T ?_
          refine RD.p T ?_
          refine RD.k rfl rfl ?_
          refine hK11 _ _ _ ?_
          refine SW.ret ?_
          have hL : (((([] ++ [bi x.t 0, bi x.t 1, bi x.t 2, bi x.t 3, bi x.t 4, bi x.t 5]) ++ [bi x.t 6, bi x.t 7, bi x.t 8, bi x.t 9, bi x.t 10, bi x.t 11]) ++ [x.typ].flatMap two) ++ x.data) = ethB x := by unfold ethB ethH; rw [ht]; rfl
          refine retQ.rr ((.row a9_ (0 + 6 + 6 + 2 * 1 + n) c9_ 5 1 ((((([] ++ [bi x.t 0, bi x.t 1, bi x.t 2, bi x.t 3, bi x.t 4, bi x.t 5]) ++ [bi x.t 6, bi x.t 7, bi x.t 8, bi x.t 9, bi x.t 10, bi x.t 11]) ++ [x.typ].flatMap two) ++ x.data).map (.int .u8)) :: H)) ?_
          clear hK11 K11 hK9 K9 hK8 K8 hK7 K7 hK5 K5 hK4 K4 hK3 K3 hK2 K2 hK1 K1 hK0 K0
          have hol : (ethB x).length = 0 + 6 + 6 + 2 * 1 + n := by rw [ethB_len, ethL, ht, hn]; simp <;> omega
          exact ⟨a9_, c9_, by rw [hol]; rfl, by rw [hol, hL]⟩
          )
       )
    )
 ·skip
  first
   | (exfalso; clear hK3 K3; clear hK2 K2; clear hK1 K1; clear hK0 K0; first | omega | contradiction | (simp at *; done) | (simp_all; done))
   | (
    refine SW.seq_k fun K12 hK12 => ?_
    refine SW.region _ _ _ _ ?_
    refine RL.p T ?_
    refine RL.lv1 T ?_
    refine RL.p T ?_
    refine RL.p T ?_
    refine RL.join (fr1 := ?_) 3 17 false [18, 19, 20] (fun hs0 hj => ?_) ?_ ?_
    rotate_left
    ·have hs0j := hs0
     try simp only [decide_eq_true_eq, Bool.not_eq_true', decide_eq_false_iff_not, Bool.not_eq_false', Int.not_lt, Int.not_le, Int.toNat_natCast, Bool.and_eq_true, Bool.or_eq_true, Bool.and_eq_false_iff, Bool.or_eq_false_iff] at hs0
     refine RL.p T ?_
     refine RL.lv1 T ?_
     refine RL.p T ?_
     exact hj
    ·repeat first | exact Mx.refl | exact Mx.mix | refine Mx.put rfl ?_ | refine Mx.upd rfl ?_ | refine Mx.updl rfl ?_ | refine Mx.fin rfl ?_ | refine Mx.inner rfl ?_ | refine Mx.none ?_
    refine RL.or ?_
    refine RL.nil _ _ _ _ ?_
    refine hK12 _ _ _ ?_
    refine SW.cs (fun hc3 => ?_) (fun hc3 => ?_)
    ·skip
     first
      | (exfalso; clear hK12 K12; clear hK3 K3; clear hK2 K2; clear hK1 K1; clear hK0 K0; first | omega | contradiction | (simp at *; done) | (simp_all; done))
      | (
       refine SW.seq_k fun K13 hK13 => ?_
       refine SW.region _ _ _ _ ?_
       refine RL.p T ?_
       refine RL.p T ?_
       refine RL.nil _ _ _ _ ?_
       refine hK13 _ _ _ ?_
       refine SW.ret ?_
       have hL : (((([] ++ [bi x.t 0, bi x.t 1, bi x.t 2, bi x.t 3, bi x.t 4, bi x.t 5]) ++ [bi x.t 6, bi x.t 7, bi x.t 8, bi x.t 9, bi x.t 10, bi x.t 11]) ++ [x.typ].flatMap two) ++ x.data) = ethB x := by unfold ethB ethH; rw [ht]; rfl
       refine retQ.rr ((.row a9_ (0 + 6 + 6 + 2 * 1 + n) c9_ 5 1 ((((([] ++ [bi x.t 0, bi x.t 1, bi x.t 2, bi x.t 3, bi x.t 4, bi x.t 5]) ++ [bi x.t 6, bi x.t 7, bi x.t 8, bi x.t 9, bi x.t 10, bi x.t 11]) ++ [x.typ].flatMap two) ++ x.data).map (.int .u8)) :: H)) ?_
       clear hK13 K13 hK12 K12 hK3 K3 hK2 K2 hK1 K1 hK0 K0
       have hol : (ethB x).length = 0 + 6 + 6 + 2 * 1 + n := by rw [ethB_len, ethL, ht, hn]; simp <;> omega
       exact ⟨a9_, c9_, by rw [hol]; rfl, by rw [hol, hL]⟩
       )
    ·skip
     first
      | (exfalso; clear hK12 K12; clear hK3 K3; clear hK2 K2; clear hK1 K1; clear hK0 K0; first | omega | contradiction | (simp at *; done) | (simp_all; done))
      | (
       refine SW.skip ?_
       refine hK2 _ _ _ ?_
       refine SW.seq_k fun K14 hK14 => ?_
       refine SW.seq_k fun K15 hK15 => ?_
       refine SW.region _ _ _ _ ?_
       refine RL.p T ?_
       refine RL.p T ?_
       refine RL.nil _ _ _ _ ?_
       refine hK15 _ _ _ ?_
       refine SW.cs (fun hc4 => ?_) (fun hc4 => ?_)
       ·skip
        first
         | (exfalso; clear hK15 K15; clear hK14 K14; clear hK12 K12; clear hK3 K3; clear hK2 K2; clear hK1 K1; clear hK0 K0; first | omega | contradiction | (simp at *; done) | (simp_all; done))
         | (
          refine SW.seq_k fun K16 hK16 => ?_
          refine SW.region _ _ _ _ ?_
          refine RL.p T ?_
          refine RL.p T ?_
          refine RL.nil _ _ _ _ ?_
          refine hK16 _ _ _ ?_
          refine SW.ret ?_
          have hL : (((([] ++ [bi x.t 0, bi x.t 1, bi x.t 2, bi x.t 3, bi x.t 4, bi x.t 5]) ++ [bi x.t 6, bi x.t 7, bi x.t 8, bi x.t 9, bi x.t 10, bi x.t 11]) ++ [x.typ].flatMap two) ++ x.data) = ethB x := by unfold ethB ethH; rw [ht]; rfl
          refine retQ.rr ((.row a9_ (0 + 6 + 6 + 2 * 1 + n) c9_ 5 1 ((((([] ++ [bi x.t 0, bi x.t 1, bi x.t 2, bi x.t 3, bi x.t 4, bi x.t 5]) ++ [bi x.t 6, bi x.t 7, bi x.t 8, bi x.t 9, bi x.t 10, bi x.t 11]) ++ [x.typ].flatMap two) ++ x.data).map (.int .u8)) :: H)) ?_
          clear hK16 K16 hK15 K15 hK14 K14 hK12 K12 hK3 K3 hK2 K2 hK1 K1 hK0 K0
          have hol : (ethB x).length = 0 + 6 + 6 + 2 * 1 + n := by rw [ethB_len, ethL, ht, hn]; simp <;> omega
          exact ⟨a9_, c9_, by rw [hol]; rfl, by rw [hol, hL]⟩
          )
       ·skip
        first
         | (exfalso; clear hK15 K15; clear hK14 K14; clear hK12 K12; clear hK3 K3; clear hK2 K2; clear hK1 K1; clear hK0 K0; first | omega | contradiction | (simp at *; done) | (simp_all; done))
         | (
          refine SW.skip ?_
          refine hK14 _ _ _ ?_
          refine SW.seq_k fun K17 hK17 => ?_
          refine SW.draw [(24, 0), (25, 1), (26, 2), (27, 3), (28, 4), (29, 5), (30, 6), (31, 7), (5, 8)] [[], [0], [], [2], [1, 0, 3, 2], [], [5], [4, 1, 0, 3, 2, 6, 5], [7, 4, 1, 0, 3, 2, 6, 5]] mixed (by kernel_rfl) (by kernel_rfl) ?_
          refine RD.p T ?_
          refine RD.p T ?_
          refine RD.q rfl rfl (Gd.none rfl) (QV.slA T rfl rfl rfl rfl) ?_
          refine RD.p T ?_
          refine RD.q rfl rfl (Gd.none rfl) (QV.slA T rfl rfl rfl rfl) ?_
          refine RD.nv rfl rfl rfl (Gd.none rfl) ?_
          refine NV.mkI T ?_ (n := 0) (c := 14 + n)
          intro b25_5
          refine ⟨(Stab.cons rfl (Gd.none rfl) (QV.slA T rfl rfl rfl rfl) (Stab.cons rfl (Gd.none rfl) (pev_sound T rfl) (Stab.cons rfl (Gd.none rfl) (QV.slA T rfl rfl rfl rfl) (Stab.cons rfl (Gd.none rfl) (pev_sound T rfl) Stab.nil)))), ?_⟩
          refine RD.nv rfl rfl rfl (Gd.none rfl) ?_
          refine NV.apI (ki := .u8) (m := 6) (xs := []) (ys := [bi x.t 0, bi x.t 1, bi x.t 2, bi x.t 3, bi x.t 4, bi x.t 5]) T ?_ (hR := fun hs => Rd.var (n := 6) (c := 6) (by repeat first | exact At.head _ _ | apply At.tail) rfl rfl (by omega))
          intro a0_ c0_
          refine ⟨(Stab.cons rfl (Gd.none rfl) (QV.slA T rfl rfl rfl rfl) (Stab.cons rfl (Gd.none rfl) (pev_sound T rfl) Stab.nil)), ?_⟩
          refine RD.nv rfl rfl rfl (Gd.none rfl) ?_
          refine NV.apI (ki := .u8) (m := 6) (ys := [bi x.t 6, bi x.t 7, bi x.t 8, bi x.t 9, bi x.t 10, bi x.t 11]) T ?_ (hR := fun hs => Rd.var (n := 6) (c := 6) (by repeat first | exact At.head _ _ | apply At.tail) rfl rfl (by omega))
          intro a6_ c6_
          refine ⟨Stab.nil, ?_⟩
          refine RD.p T ?_
          refine RD.k rfl rfl ?_
          refine hK17 _ _ _ ?_
          refine SW.seq_k fun K18 hK18 => ?_
          refine SW.seq_k fun K19 hK19 => ?_
          refine SW.region _ _ _ _ ?_
          refine RL.p T ?_
          refine RL.lv1 T ?_
          refine RL.nil _ _ _ _ ?_
          refine hK19 _ _ _ ?_
          refine SW.cs (fun hc5 => ?_) (fun hc5 => ?_)
          ·skip
           first
            | (exfalso; clear hK19 K19; clear hK18 K18; clear hK17 K17; clear hK15 K15; clear hK14 K14; clear hK12 K12; clear hK3 K3; clear hK2 K2; clear hK1 K1; clear hK0 K0; first | omega | contradiction | (simp at *; done) | (simp_all; done))
            | (
             refine SW.region _ _ _ _ ?_
             refine RL.p T ?_
             refine RL.p T ?_
             refine RL.lv1 T ?_
             refine RL.bs T rfl rfl rfl (by exact (rfl : _ = some [_, _])) (fun b37_6 => ?_)
             refine RL.c fun27 (fun hs => (SC.swap (put16 _ (0 + 6 + 6) _ (([] ++ [bi x.t 0, bi x.t 1, bi x.t 2, bi x.t 3, bi x.t 4, bi x.t 5]) ++ [bi x.t 6, bi x.t 7, bi x.t 8, bi x.t 9, bi x.t 10, bi x.t 11]) rfl (by omega) _ 2 2 [33024, x.tag] (Rd.rowh (sat2 hs) (At.head _ _)) rfl (by omega) (two_ok (by omega) (by omega))))) ?_
             rintro _ _ ⟨ap, cp, rfl, e⟩; obtain rfl := e.symm
             refine RL.p T ?_
             refine RL.nil _ _ _ _ ?_
             refine hK18 _ _ _ ?_
             refine SW.seq_k fun K20 hK20 => ?_
             refine SW.draw [(39, 0), (40, 1), (41, 2), (42, 3), (43, 4), (44, 5), (45, 6), (46, 7), (2, 8), (3, 9)] [[], [], [1], [2, 1], [0, 3, 2, 1], [], [5], [4, 0, 3, 2, 1, 6, 5], [7, 4, 0, 3, 2, 1, 6, 5], [8, 7, 4, 0, 3, 2, 1, 6, 5]] mixed (by kernel_rfl) (by kernel_rfl) ?_
             refine RD.p T ?_
             refine RD.p T ?_
             refine RD.q rfl rfl (Gd.none rfl) (QV.v1 T) ?_
             refine RD.p T ?_
             refine RD.q rfl rfl (Gd.none rfl) (QV.v1 T) ?_
             refine RD.nv rfl rfl rfl (Gd.none rfl) ?_
             refine NV.build1 T rfl (by conv => lhs; whnf) rfl rfl (by conv => lhs; whnf) (by exact (rfl : _ = some [_])) ?_
             intro b42_7
             refine ⟨(Stab.cons rfl (Gd.none rfl) (QV.v1 T) (Stab.cons rfl (Gd.none rfl) (pev_sound T rfl) (Stab.cons rfl (Gd.none rfl) (pev_sound T rfl) Stab.nil))), ?_⟩
             refine RD.nv rfl rfl rfl (Gd.none rfl) ?_
             refine NV.sat (fun hs => ?_) (fun c hc => by cases hc)
             refine NV.call rfl rfl rfl fun27 rfl rfl ((SC.swap (put16 _ (0 + 6 + 6) _ (([] ++ [bi x.t 0, bi x.t 1, bi x.t 2, bi x.t 3, bi x.t 4, bi x.t 5]) ++ [bi x.t 6, bi x.t 7, bi x.t 8, bi x.t 9, bi x.t 10, bi x.t 11]) (by rfl) (by omega) _ 1 1 [x.typ] (Rd.rowh (sat2 hs) (At.head _ _)) rfl (by omega) (two_rng (by omega))))) ?_
             rintro _ _ ⟨aq, cq, rfl, e⟩; obtain rfl := e.symm
             refine ⟨(Stab.cons rfl (Gd.none rfl) (QV.v1 T) (Stab.cons rfl (Gd.none rfl) (pev_sound T rfl) Stab.nil)), ?_⟩
             refine RD.nv rfl rfl rfl (Gd.none rfl) ?_
             refine NV.apI (ki := .u8) T ?_ (hR := fun hs => (by repeat first | exact hR | apply Rd.cons | apply Rd.app))
             intro a9_ c9_
             refine ⟨Stab.nil, ?_⟩
             refine RD.p T ?_
             refine RD.p T ?_
             refine RD.k rfl rfl ?_
             refine hK20 _ _ _ ?_
             refine SW.ret ?_
             have hL : (((([] ++ [bi x.t 0, bi x.t 1, bi x.t 2, bi x.t 3, bi x.t 4, bi x.t 5]) ++ [bi x.t 6, bi x.t 7, bi x.t 8, bi x.t 9, bi x.t 10, bi x.t 11]) ++ [x.typ].flatMap two) ++ x.data) = ethB x := by unfold ethB ethH; rw [ht]; rfl
             refine retQ.rr ((.row a9_ (0 + 6 + 6 + 2 * 1 + n) c9_ 5 1 ((((([] ++ [bi x.t 0, bi x.t 1, bi x.t 2, bi x.t 3, bi x.t 4, bi x.t 5]) ++ [bi x.t 6, bi x.t 7, bi x.t 8, bi x.t 9, bi x.t 10, bi x.t 11]) ++ [x.typ].flatMap two) ++ x.data).map (.int .u8)) :: H)) ?_
             clear hK20 K20 hK19 K19 hK18 K18 hK17 K17 hK15 K15 hK14 K14 hK12 K12 hK3 K3 hK2 K2 hK1 K1 hK0 K0
             have hol : (ethB x).length = 0 + 6 + 6 + 2 * 1 + n := by rw [ethB_len, ethL, ht, hn]; simp <;> omega
             exact ⟨a9_, c9_, by rw [hol]; rfl, by rw [hol, hL]⟩
             )
          ·skip
           first
            | (exfalso; clear hK19 K19; clear hK18 K18; clear hK17 K17; clear hK15 K15; clear hK14 K14; clear hK12 K12; clear hK3 K3; clear hK2 K2; clear hK1 K1; clear hK0 K0; first | omega | contradiction | (simp at *; done) | (simp_all; done))
            | (
             refine SW.skip ?_
             refine hK18 _ _ _ ?_
             refine SW.seq_k fun K21 hK21 => ?_
             refine SW.draw [(39, 0), (40, 1), (41, 2), (42, 3), (43, 4), (44, 5), (45, 6), (46, 7), (2, 8), (3, 9)] [[], [], [1], [2, 1], [0, 3, 2, 1], [], [5], [4, 0, 3, 2, 1, 6, 5], [7, 4, 0, 3, 2, 1, 6, 5], [8, 7, 4, 0, 3, 2, 1, 6, 5]] mixed (by kernel_rfl) (by kernel_rfl) ?_
             refine RD.p T ?_
             refine RD.p T ?_
             refine RD.q rfl rfl (Gd.none rfl) (QV.v1 T) ?_
             refine RD.p T ?_
             refine RD.q rfl rfl (Gd.none rfl) (QV.v1 T) ?_
             refine RD.nv rfl rfl rfl (Gd.none rfl) ?_
             refine NV.build1 T rfl (by conv => lhs; whnf) rfl rfl (by conv => lhs; whnf) (by exact (rfl : _ = some [_])) ?_
             intro b42_8
             refine ⟨(Stab.cons rfl (Gd.none rfl) (QV.v1 T) (Stab.cons rfl (Gd.none rfl) (pev_sound T rfl) (Stab.cons rfl (Gd.none rfl) (pev_sound T rfl) Stab.nil))), ?_⟩
             refine RD.nv rfl rfl rfl (Gd.none rfl) ?_
             refine NV.sat (fun hs => ?_) (fun c hc => by cases hc)
             refine NV.call rfl rfl rfl fun27 rfl rfl ((SC.swap (put16 _ (0 + 6 + 6) _ (([] ++ [bi x.t 0, bi x.t 1, bi x.t 2, bi x.t 3, bi x.t 4, bi x.t 5]) ++ [bi x.t 6, bi x.t 7, bi x.t 8, bi x.t 9, bi x.t 10, bi x.t 11]) (by rfl) (by omega) _ 1 1 [x.typ] (Rd.rowh (sat2 hs) (At.head _ _)) rfl (by omega) (two_rng (by omega))))) ?_
             rintro _ _ ⟨aq, cq, rfl, e⟩; obtain rfl := e.symm
             refine ⟨(Stab.cons rfl (Gd.none rfl) (QV.v1 T) (Stab.cons rfl (Gd.none rfl) (pev_sound T rfl) Stab.nil)), ?_⟩
             refine RD.nv rfl rfl rfl (Gd.none rfl) ?_
             refine NV.apI (ki := .u8) T ?_ (hR := fun hs => (by repeat first | exact hR | apply Rd.cons | apply Rd.app))
             intro a9_ c9_
             refine ⟨Stab.nil, ?_⟩
             refine RD.p T ?_
             refine RD.p T ?_
             refine RD.k rfl rfl ?_
             refine hK21 _ _ _ ?_
             refine SW.ret ?_
             have hL : (((([] ++ [bi x.t 0, bi x.t 1, bi x.t 2, bi x.t 3, bi x.t 4, bi x.t 5]) ++ [bi x.t 6, bi x.t 7, bi x.t 8, bi x.t 9, bi x.t 10, bi x.t 11]) ++ [x.typ].flatMap two) ++ x.data) = ethB x := by unfold ethB ethH; rw [ht]; rfl
             refine retQ.rr ((.row a9_ (0 + 6 + 6 + 2 * 1 + n) c9_ 5 1 ((((([] ++ [bi x.t 0, bi x.t 1, bi x.t 2, bi x.t 3, bi x.t 4, bi x.t 5]) ++ [bi x.t 6, bi x.t 7, bi x.t 8, bi x.t 9, bi x.t 10, bi x.t 11]) ++ [x.typ].flatMap two) ++ x.data).map (.int .u8)) :: H)) ?_
             clear hK21 K21 hK19 K19 hK18 K18 hK17 K17 hK15 K15 hK14 K14 hK12 K12 hK3 K3 hK2 K2 hK1 K1 hK0 K0
             have hol : (ethB x).length = 0 + 6 + 6 + 2 * 1 + n := by rw [ethB_len, ethL, ht, hn]; simp <;> omega
             exact ⟨a9_, c9_, by rw [hol]; rfl, by rw [hol, hL]⟩
             )
          )
       )
    )
theorem puteth_bad {w0 : World} {H : List Chunk} (x : Eth) (sa : Option Addr) (n c : Nat) (hR : Rd w0 H sa n c 1 (x.data.map (.int .u8))) (hn : n = x.data.length) (hm : n ≤ 140737488351) (he : EOk x) (hb : (x.tagged = false ∧ (x.tag ≠ 0 ∨ x.typ = 33024)) ∨ 2048 < 14 + n + (if x.tagged = true then 4 else 0)) : SC Try.prog w0 15 #[EA x sa n c] H (fun v H' => v = .tuple #[.slice none 0 0, .int .i64 2] ∧ H' = H) := by
 refine SC.enter Try.func15 rfl (Nat.le_of_ble_eq_true rfl) ?_
 refine SW.seq_k fun K0 hK0 => ?_
 refine SW.region _ _ _ _ ?_
 refine RL.s ?_
 refine NV.box rfl (by exact (rfl : _ = [_, _, _, _, _, _, _, _, _, _, _, _, _, _, _, _])) ?_
 intro b1_0
 refine RL.p T ?_
 refine RL.p T ?_
 refine RL.nil _ _ _ _ ?_
 refine hK0 _ _ _ ?_
 refine SW.seq_k fun K1 hK1 => ?_
 refine SW.region _ _ _ _ ?_
 refine RL.p T ?_
 refine RL.lv1 T ?_
 refine RL.p T ?_
 first | refine RL.ar ?_ | refine RL.p T ?_
 refine RL.p T ?_
 refine RL.nil _ _ _ _ ?_
 refine hK1 _ _ _ ?_
 refine SW.seq_k fun K2 hK2 => ?_
 refine SW.seq_k fun K3 hK3 => ?_
 refine SW.region _ _ _ _ ?_
 refine RL.p T ?_
 refine RL.lv1 T ?_
 refine RL.nil _ _ _ _ ?_
 refine hK3 _ _ _ ?_
 refine SW.cs (fun hc0 => ?_) (fun hc0 => ?_)
 ·skip
  first
   | (exfalso; clear hK3 K3; clear hK2 K2; clear hK1 K1; clear hK0 K0; first | omega | contradiction | (simp at *; done) | (simp_all; done) | (simp_all; omega))
   | (
    refine SW.region _ _ _ _ ?_
    refine RL.p T ?_
    first | refine RL.ar ?_ | refine RL.p T ?_
    refine RL.p T ?_
    refine RL.nil _ _ _ _ ?_
    refine hK2 _ _ _ ?_
    refine SW.seq_k fun K4 hK4 => ?_
    refine SW.seq_k fun K5 hK5 => ?_
    refine SW.region _ _ _ _ ?_
    refine RL.p T ?_
    refine RL.p T ?_
    refine RL.nil _ _ _ _ ?_
    refine hK5 _ _ _ ?_
    refine SW.cs (fun hc1 => ?_) (fun hc1 => ?_)
    ·skip
     first
      | (exfalso; clear hK5 K5; clear hK4 K4; clear hK3 K3; clear hK2 K2; clear hK1 K1; clear hK0 K0; first | omega | contradiction | (simp at *; done) | (simp_all; done) | (simp_all; omega))
      | (
       refine SW.seq_k fun K6 hK6 => ?_
       refine SW.region _ _ _ _ ?_
       refine RL.p T ?_
       refine RL.p T ?_
       refine RL.nil _ _ _ _ ?_
       refine hK6 _ _ _ ?_
       refine SW.ret ?_
       refine retQ.rr (H) ?_
       clear hK6 K6 hK5 K5 hK4 K4 hK3 K3 hK2 K2 hK1 K1 hK0 K0
       exact ⟨rfl, rfl⟩
       )
    ·skip
     first
      | (exfalso; clear hK5 K5; clear hK4 K4; clear hK3 K3; clear hK2 K2; clear hK1 K1; clear hK0 K0; first | omega | contradiction | (simp at *; done) | (simp_all; done) | (simp_all; omega))
      | (
       refine SW.skip ?_
       refine hK4 _ _ _ ?_
       refine SW.seq_k fun K7 hK7 => ?_
       refine SW.draw [(24, 0), (25, 1), (26, 2), (27, 3), (28, 4), (29, 5), (30, 6), (31, 7), (5, 8)] [[], [0], [], [2], [1, 0, 3, 2], [], [5], [4, 1, 0, 3, 2, 6, 5], [7, 4, 1, 0, 3, 2, 6, 5]] mixed (by kernel_rfl) (by kernel_rfl) ?_
       refine RD.p T ?_
       refine RD.p T ?_
       refine RD.p T ?_
       refine RD.p T ?_
       refine RD.p T ?_
       refine RD.nv rfl rfl rfl (Gd.none rfl) ?_
       refine NV.mkI T ?_
       intro b25_1
       refine ⟨(Stab.cons rfl (Gd.none rfl) (pev_sound T rfl) (Stab.cons rfl (Gd.none rfl) (pev_sound T rfl) (Stab.cons rfl (Gd.none rfl) (pev_sound T rfl) (Stab.cons rfl (Gd.none rfl) (pev_sound T rfl) Stab.nil)))), ?_⟩
       refine RD.nv rfl rfl rfl (Gd.none rfl) ?_
       first
         | refine NV.append1 T rfl rfl rfl rfl rfl rfl rfl rfl rfl rfl (by repeat first | exact At.head _ _ | assumption | exact At.put (by assumption) _ | apply At.tail | apply At.app) (ones rfl) (by first | omega | (unfold maxLen; omega)) (by first | omega | (show (_ + _) * 8 ≤ 140737488355328; omega)) ?_
         | refine NV.append T rfl rfl rfl rfl rfl rfl rfl rfl rfl rfl (by repeat first | exact At.head _ _ | assumption | exact At.put (by assumption) _ | apply At.tail | apply At.app) (by assumption) (ones rfl) (by first | omega | (unfold maxLen; omega)) (by first | omega | (show (_ + _) * 8 ≤ 140737488355328; omega)) ?_
       intro a0_ c0_
       refine ⟨(Stab.cons rfl (Gd.none rfl) (pev_sound T rfl) (Stab.cons rfl (Gd.none rfl) (pev_sound T rfl) Stab.nil)), ?_⟩
       refine RD.nv rfl rfl rfl (Gd.none rfl) ?_
       first
         | refine NV.append1 T rfl rfl rfl rfl rfl rfl rfl rfl rfl rfl (by repeat first | exact At.head _ _ | assumption | exact At.put (by assumption) _ | apply At.tail | apply At.app) (ones rfl) (by first | omega | (unfold maxLen; omega)) (by first | omega | (show (_ + _) * 8 ≤ 140737488355328; omega)) ?_
         | refine NV.append T rfl rfl rfl rfl rfl rfl rfl rfl rfl rfl (by repeat first | exact At.head _ _ | assumption | exact At.put (by assumption) _ | apply At.tail | apply At.app) (by assumption) (ones rfl) (by first | omega | (unfold maxLen; omega)) (by first | omega | (show (_ + _) * 8 ≤ 140737488355328; omega)) ?_
       intro a1_ c1_
       refine ⟨Stab.nil, ?_⟩
       refine RD.p T ?_
       refine RD.k rfl rfl ?_
       refine hK7 _ _ _ ?_
       refine SW.seq_k fun K8 hK8 => ?_
       refine SW.seq_k fun K9 hK9 => ?_
       refine SW.region _ _ _ _ ?_
       refine RL.p T ?_
       refine RL.lv1 T ?_
       refine RL.nil _ _ _ _ ?_
       refine hK9 _ _ _ ?_
       refine SW.cs (fun hc2 => ?_) (fun hc2 => ?_)
       ·skip
        exfalso; clear hK9 K9; clear hK8 K8; clear hK7 K7; clear hK5 K5; clear hK4 K4; clear hK3 K3; clear hK2 K2; clear hK1 K1; clear hK0 K0; first | omega | contradiction | (simp at *; done) | (simp_all; done) | (simp_all; omega)
       ·skip
        exfalso; clear hK9 K9; clear hK8 K8; clear hK7 K7; clear hK5 K5; clear hK4 K4; clear hK3 K3; clear hK2 K2; clear hK1 K1; clear hK0 K0; first | omega | contradiction | (simp at *; done) | (simp_all; done) | (simp_all; omega)
       )
    )
 ·skip
  first
   | (exfalso; clear hK3 K3; clear hK2 K2; clear hK1 K1; clear hK0 K0; first | omega | contradiction | (simp at *; done) | (simp_all; done) | (simp_all; omega))
   | (
    refine SW.seq_k fun K10 hK10 => ?_
    refine SW.region _ _ _ _ ?_
    refine RL.p T ?_
    refine RL.lv1 T ?_
    refine RL.p T ?_
    refine RL.p T ?_
    refine RL.join (fr1 := ?_) 3 17 false [18, 19, 20] (fun hs0 hj => ?_) ?_ ?_
    rotate_left
    ·have hs0j := hs0
     try simp only [decide_eq_true_eq, Bool.not_eq_true', decide_eq_false_iff_not, Bool.not_eq_false', Int.not_lt, Int.not_le, Int.toNat_natCast, Bool.and_eq_true, Bool.or_eq_true, Bool.and_eq_false_iff, Bool.or_eq_false_iff] at hs0
     refine RL.p T ?_
     refine RL.lv1 T ?_
     refine RL.p T ?_
     exact hj
    ·repeat first | exact Mx.refl | exact Mx.mix | refine Mx.put rfl ?_ | refine Mx.upd rfl ?_ | refine Mx.updl rfl ?_ | refine Mx.fin rfl ?_ | refine Mx.inner rfl ?_ | refine Mx.none ?_
    refine RL.or ?_
    refine RL.nil _ _ _ _ ?_
    refine hK10 _ _ _ ?_
    refine SW.cs (fun hc3 => ?_) (fun hc3 => ?_)
    ·skip
     first
      | (exfalso; clear hK10 K10; clear hK3 K3; clear hK2 K2; clear hK1 K1; clear hK0 K0; first | omega | contradiction | (simp at *; done) | (simp_all; done) | (simp_all; omega))
      | (
       refine SW.seq_k fun K11 hK11 => ?_
       refine SW.region _ _ _ _ ?_
       refine RL.p T ?_
       refine RL.p T ?_
       refine RL.nil _ _ _ _ ?_
       refine hK11 _ _ _ ?_
       refine SW.ret ?_
       refine retQ.rr (H) ?_
       clear hK11 K11 hK10 K10 hK3 K3 hK2 K2 hK1 K1 hK0 K0
       exact ⟨rfl, rfl⟩
       )
    ·skip
     first
      | (exfalso; clear hK10 K10; clear hK3 K3; clear hK2 K2; clear hK1 K1; clear hK0 K0; first | omega | contradiction | (simp at *; done) | (simp_all; done) | (simp_all; omega))
      | (
       refine SW.skip ?_
       refine hK2 _ _ _ ?_
       refine SW.seq_k fun K12 hK12 => ?_
       refine SW.seq_k fun K13 hK13 => ?_
       refine SW.region _ _ _ _ ?_
       refine RL.p T ?_
       refine RL.p T ?_
       refine RL.nil _ _ _ _ ?_
       refine hK13 _ _ _ ?_
       refine SW.cs (fun hc4 => ?_) (fun hc4 => ?_)
       ·skip
        first
         | (exfalso; clear hK13 K13; clear hK12 K12; clear hK10 K10; clear hK3 K3; clear hK2 K2; clear hK1 K1; clear hK0 K0; first | omega | contradiction | (simp at *; done) | (simp_all; done) | (simp_all; omega))
         | (
          refine SW.seq_k fun K14 hK14 => ?_
          refine SW.region _ _ _ _ ?_
          refine RL.p T ?_
          refine RL.p T ?_
          refine RL.nil _ _ _ _ ?_
          refine hK14 _ _ _ ?_
          refine SW.ret ?_
          refine retQ.rr (H) ?_
          clear hK14 K14 hK13 K13 hK12 K12 hK10 K10 hK3 K3 hK2 K2 hK1 K1 hK0 K0
          exact ⟨rfl, rfl⟩
          )
       ·skip
        first
         | (exfalso; clear hK13 K13; clear hK12 K12; clear hK10 K10; clear hK3 K3; clear hK2 K2; clear hK1 K1; clear hK0 K0; first | omega | contradiction | (simp at *; done) | (simp_all; done) | (simp_all; omega))
         | (
          refine SW.skip ?_
          refine hK12 _ _ _ ?_
          refine SW.seq_k fun K15 hK15 => ?_
          refine SW.draw [(24, 0), (25, 1), (26, 2), (27, 3), (28, 4), (29, 5), (30, 6), (31, 7), (5, 8)] [[], [0], [], [2], [1, 0, 3, 2], [], [5], [4, 1, 0, 3, 2, 6, 5], [7, 4, 1, 0, 3, 2, 6, 5]] mixed (by kernel_rfl) (by kernel_rfl) ?_
          refine RD.p T ?_
          refine RD.p T ?_
          refine RD.p T ?_
          refine RD.p T ?_
          refine RD.p T ?_
          refine RD.nv rfl rfl rfl (Gd.none rfl) ?_
          refine NV.mkI T ?_
          intro b25_2
          refine ⟨(Stab.cons rfl (Gd.none rfl) (pev_sound T rfl) (Stab.cons rfl (Gd.none rfl) (pev_sound T rfl) (Stab.cons rfl (Gd.none rfl) (pev_sound T rfl) (Stab.cons rfl (Gd.none rfl) (pev_sound T rfl) Stab.nil)))), ?_⟩
          refine RD.nv rfl rfl rfl (Gd.none rfl) ?_
          first
            | refine NV.append1 T rfl rfl rfl rfl rfl rfl rfl rfl rfl rfl (by repeat first | exact At.head _ _ | assumption | exact At.put (by assumption) _ | apply At.tail | apply At.app) (ones rfl) (by first | omega | (unfold maxLen; omega)) (by first | omega | (show (_ + _) * 8 ≤ 140737488355328; omega)) ?_
            | refine NV.append T rfl rfl rfl rfl rfl rfl rfl rfl rfl rfl (by repeat first | exact At.head _ _ | assumption | exact At.put (by assumption) _ | apply At.tail | apply At.app) (by assumption) (ones rfl) (by first | omega | (unfold maxLen; omega)) (by first | omega | (show (_ + _) * 8 ≤ 140737488355328; omega)) ?_
          intro a2_ c2_
          refine ⟨(Stab.cons rfl (Gd.none rfl) (pev_sound T rfl) (Stab.cons rfl (Gd.none rfl) (pev_sound T rfl) Stab.nil)), ?_⟩
          refine RD.nv rfl rfl rfl (Gd.none rfl) ?_
          first
            | refine NV.append1 T rfl rfl rfl rfl rfl rfl rfl rfl rfl rfl (by repeat first | exact At.head _ _ | assumption | exact At.put (by assumption) _ | apply At.tail | apply At.app) (ones rfl) (by first | omega | (unfold maxLen; omega)) (by first | omega | (show (_ + _) * 8 ≤ 140737488355328; omega)) ?_
            | refine NV.append T rfl rfl rfl rfl rfl rfl rfl rfl rfl rfl (by repeat first | exact At.head _ _ | assumption | exact At.put (by assumption) _ | apply At.tail | apply At.app) (by assumption) (ones rfl) (by first | omega | (unfold maxLen; omega)) (by first | omega | (show (_ + _) * 8 ≤ 140737488355328; omega)) ?_
          intro a3_ c3_
          refine ⟨Stab.nil, ?_⟩
          refine RD.p T ?_
          refine RD.k rfl rfl ?_
          refine hK15 _ _ _ ?_
          refine SW.seq_k fun K16 hK16 => ?_
          refine SW.seq_k fun K17 hK17 => ?_
          refine SW.region _ _ _ _ ?_
          refine RL.p T ?_
          refine RL.lv1 T ?_
          refine RL.nil _ _ _ _ ?_
          refine hK17 _ _ _ ?_
          refine SW.cs (fun hc5 => ?_) (fun hc5 => ?_)
          ·skip
           exfalso; clear hK17 K17; clear hK16 K16; clear hK15 K15; clear hK13 K13; clear hK12 K12; clear hK10 K10; clear hK3 K3; clear hK2 K2; clear hK1 K1; clear hK0 K0; first | omega | contradiction | (simp at *; done) | (simp_all; done) | (simp_all; omega)
          ·skip
           exfalso; clear hK17 K17; clear hK16 K16; clear hK15 K15; clear hK13 K13; clear hK12 K12; clear hK10 K10; clear hK3 K3; clear hK2 K2; clear hK1 K1; clear hK0 K0; first | omega | contradiction | (simp at *; done) | (simp_all; done) | (simp_all; omega)
          )
       )
    )
theorem puteth {w0 : World} {H : List Chunk} (x : Eth) (sa : Option Addr) (n c : Nat) (hR : Rd w0 H sa n c 1 (x.data.map (.int .u8))) (hn : n = x.data.length) (hm : n ≤ 140737488351) (he : EOk x) : SC Try.prog w0 15 #[EA x sa n c] H (fun v H' => ∃ a c, v = .tuple #[.slice a (putE x).1.length c, .int .i64 (putE x).2] ∧ H' = .row a (putE x).1.length c 5 1 ((putE x).1.map (.int .u8)) :: H) := by
  by_cases h : (x.tagged = false ∧ (x.tag ≠ 0 ∨ x.typ = 33024)) ∨ 2048 < ethL x
  · rw [putE_bad h]
    refine SC.nilrow 5 1 (SC.mono (puteth_bad x sa n c hR.cons hn hm he (by unfold ethL at h; rw [← hn] at h; exact h)) ?_)
    rintro _ _ ⟨rfl, rfl⟩; exact ⟨none, 0, rfl, rfl⟩
  · rw [putE_ok h]
    have hl : ethL x ≤ 2048 := by omega
    unfold ethL at hl
    rw [← hn] at hl
    cases ht : x.tagged with
    | true => rw [ht] at hl; exact puteth_t x sa n c hR hn hm he ht (by simpa using hl)
    | false => rw [ht] at hl h; exact puteth_f x sa n c hR hn hm he ht (by simpa using hl) (by simp at h; omega)
theorem rtwo {w0 : World} {H : List Chunk} (y : Int) (hy : 0 ≤ y ∧ y ≤ 65535) : SC Try.prog w0 32 #[.int .u16 y] H (fun v H' => ∃ b, v = .slice (some ⟨b, 0, none⟩) 2 2 ∧ H' = .row (some ⟨b, 0, none⟩) 2 2 5 1 ((two y).map (.int .u8)) :: H) := by
 refine SC.enter Try.func32 rfl (Nat.le_of_ble_eq_true rfl) ?_
 refine SW.seq_k fun K0 hK0 => ?_
 refine SW.region _ _ _ _ ?_
 refine RL.p T ?_
 refine RL.nil _ _ _ _ ?_
 refine hK0 _ _ _ ?_
 refine SW.seq_k fun K1 hK1 => ?_
 refine SW.region _ _ _ _ ?_
 refine RL.p T ?_
 first | refine RL.q (QV.quoP rfl rfl rfl (by omega) (by omega) (by simp only [hiK]; omega)) ?_ | refine RL.q (QV.quo rfl rfl rfl (by omega) rfl) ?_
 first | refine RL.cv T ?_ | refine RL.p T ?_ | refine RL.ts T ?_
 refine RL.p T ?_
 first | refine RL.q (QV.remP rfl rfl rfl (by omega) (by omega)) ?_ | refine RL.q (QV.rem rfl rfl rfl (by omega) rfl) ?_
 first | refine RL.cv T ?_ | refine RL.p T ?_ | refine RL.ts T ?_
 refine RL.bs T rfl rfl rfl (by exact (rfl : _ = some [_, _])) (fun b9_0 => ?_)
 refine RL.p T ?_
 refine RL.nil _ _ _ _ ?_
 refine hK1 _ _ _ ?_
 refine SW.ret ?_
 refine retQ.rr _ ?_ (hH := fun w hw => hw)
 clear hK1 K1 hK0 K0
 exact ⟨_, rfl, rfl⟩
theorem rputeth_t {w0 : World} {H : List Chunk} (x : Eth) (sa : Option Addr) (n c : Nat) (hR : Rd w0 H sa n c 1 (x.data.map (.int .u8))) (hn : n = x.data.length) (hm : n ≤ 100000) (he : EOk x) (ht : x.tagged = true) (hl : 14 + n + 4 ≤ 2048) : SC Try.prog w0 16 #[EA x sa n c] H (fun v H' => ∃ a c, v = .tuple #[.slice a (ethB x).length c, .int .i64 0] ∧ H' = .row a (ethB x).length c 5 1 ((ethB x).map (.int .u8)) :: H) := by
 refine SC.enter Try.func16 rfl (Nat.le_of_ble_eq_true rfl) ?_
 refine SW.seq_k fun K0 hK0 => ?_
 have hrt := he.tag
 have hry := he.typ
 have hbt := bi_rng he.byte
 refine SW.region _ _ _ _ ?_
 refine RL.s ?_
 refine NV.box rfl (by exact (rfl : _ = [_, _, _, _, _, _, _, _, _, _, _, _, _, _, _, _])) ?_
 intro b1_0
 refine RL.p T ?_
 refine RL.p T ?_
 refine RL.nil _ _ _ _ ?_
 refine hK0 _ _ _ ?_
 refine SW.seq_k fun K1 hK1 => ?_
 refine SW.seq_k fun K2 hK2 => ?_
 refine SW.region _ _ _ _ ?_
 refine RL.p T ?_
 refine RL.lv1 T ?_
 refine RL.p T ?_
 refine RL.p T ?_
 refine RL.join (fr1 := ?_) 8 8 true [9, 10, 11, 12, 13, 14, 15, 16] (fun hs0 hj => ?_) ?_ ?_
 rotate_left
 ·have hs0j := hs0
  try simp only [decide_eq_true_eq, Bool.not_eq_true', decide_eq_false_iff_not, Bool.not_eq_false', Int.not_lt, Int.not_le, Int.toNat_natCast, Bool.and_eq_true, Bool.or_eq_true, Bool.and_eq_false_iff, Bool.or_eq_false_iff] at hs0
  refine RL.p T ?_
  refine RL.lv1 T ?_
  refine RL.p T ?_
  refine RL.p T ?_
  refine RL.join (fr1 := ?_) 3 12 false [13, 14, 15] (fun hs1 hj => ?_) ?_ ?_
  rotate_left
  ·have hs1j := hs1
   try simp only [decide_eq_true_eq, Bool.not_eq_true', decide_eq_false_iff_not, Bool.not_eq_false', Int.not_lt, Int.not_le, Int.toNat_natCast, Bool.and_eq_true, Bool.or_eq_true, Bool.and_eq_false_iff, Bool.or_eq_false_iff] at hs1
   refine RL.p T ?_
   refine RL.lv1 T ?_
   refine RL.p T ?_
   exact hj
  ·repeat first | exact Mx.refl | exact Mx.mix | refine Mx.put rfl ?_ | refine Mx.upd rfl ?_ | refine Mx.updl rfl ?_ | refine Mx.fin rfl ?_ | refine Mx.inner rfl ?_ | refine Mx.none ?_
  refine RL.or ?_
  exact hj
 ·repeat first | exact Mx.refl | exact Mx.mix | refine Mx.put rfl ?_ | refine Mx.upd rfl ?_ | refine Mx.updl rfl ?_ | refine Mx.fin rfl ?_ | refine Mx.inner rfl ?_ | refine Mx.none ?_
 refine RL.and ?_
 refine RL.nil _ _ _ _ ?_
 refine hK2 _ _ _ ?_
 refine SW.cs (fun hc0 => ?_) (fun hc0 => ?_)
 ·skip
  first
   | (exfalso; clear hK2 K2; clear hK1 K1; clear hK0 K0; first | omega | contradiction | (simp at *; done) | (simp_all; done))
   | (
    refine SW.seq_k fun K3 hK3 => ?_
    refine SW.region _ _ _ _ ?_
    refine RL.p T ?_
    refine RL.p T ?_
    refine RL.nil _ _ _ _ ?_
    refine hK3 _ _ _ ?_
    refine SW.ret ?_
    have hL : (((((([] ++ [bi x.t 0, bi x.t 1, bi x.t 2, bi x.t 3, bi x.t 4, bi x.t 5]) ++ [bi x.t 6, bi x.t 7, bi x.t 8, bi x.t 9, bi x.t 10, bi x.t 11]) ++ [129, 0]) ++ two x.tag) ++ two x.typ) ++ x.data) = ethB x := by unfold ethB ethH; rw [ht]; simp [two]; try rfl
    refine retQ.rr ((.row a9_ (0 + 6 + 6 + 2 + 2 + 2 + n) c9_ 5 1 ((((((([] ++ [bi x.t 0, bi x.t 1, bi x.t 2, bi x.t 3, bi x.t 4, bi x.t 5]) ++ [bi x.t 6, bi x.t 7, bi x.t 8, bi x.t 9, bi x.t 10, bi x.t 11]) ++ [129, 0]) ++ two x.tag) ++ two x.typ) ++ x.data).map (.int .u8)) :: H)) ?_
    clear hK3 K3 hK2 K2 hK1 K1 hK0 K0
    have hol : (ethB x).length = 0 + 6 + 6 + 2 + 2 + 2 + n := by rw [ethB_len, ethL, ht, hn]; simp <;> omega
    exact ⟨a9_, c9_, by rw [hol]; rfl, by rw [hol, hL]⟩
    )
 ·skip
  first
   | (exfalso; clear hK2 K2; clear hK1 K1; clear hK0 K0; first | omega | contradiction | (simp at *; done) | (simp_all; done))
   | (
    refine SW.skip ?_
    refine hK1 _ _ _ ?_
    refine SW.seq_k fun K4 hK4 => ?_
    refine SW.draw [(18, 0), (19, 1), (20, 2), (21, 3), (22, 4), (23, 5), (24, 6), (4, 7)] [[], [], [1], [0, 2, 1], [], [4], [3, 0, 2, 1, 5, 4], [6, 3, 0, 2, 1, 5, 4]] mixed (by kernel_rfl) (by kernel_rfl) ?_
    refine RD.p T ?_
    refine RD.q rfl rfl (Gd.none rfl) (QV.slA T rfl rfl rfl rfl) ?_
    refine RD.p T ?_
    refine RD.q rfl rfl (Gd.none rfl) (QV.slA T rfl rfl rfl rfl) ?_
    refine RD.nv rfl rfl rfl (Gd.none rfl) ?_
    refine NV.buildSlice T rfl rfl rfl (Nat.le_of_ble_eq_true rfl) (by exact (rfl : _ = some [])) ?_
    intro b18_1
    refine ⟨(Stab.cons rfl (Gd.none rfl) (QV.slA T rfl rfl rfl rfl) (Stab.cons rfl (Gd.none rfl) (pev_sound T rfl) (Stab.cons rfl (Gd.none rfl) (QV.slA T rfl rfl rfl rfl) (Stab.cons rfl (Gd.none rfl) (pev_sound T rfl) Stab.nil)))), ?_⟩
    refine RD.nv rfl rfl rfl (Gd.none rfl) ?_
    refine NV.apI (ki := .u8) (m := 6) (xs := []) (ys := [bi x.t 0, bi x.t 1, bi x.t 2, bi x.t 3, bi x.t 4, bi x.t 5]) T ?_ (hR := fun hs => Rd.var (n := 6) (c := 6) (by repeat first | exact At.head _ _ | apply At.tail) rfl rfl (by omega))
    intro a0_ c0_
    refine ⟨(Stab.cons rfl (Gd.none rfl) (QV.slA T rfl rfl rfl rfl) (Stab.cons rfl (Gd.none rfl) (pev_sound T rfl) Stab.nil)), ?_⟩
    refine RD.nv rfl rfl rfl (Gd.none rfl) ?_
    refine NV.apI (ki := .u8) (m := 6) (ys := [bi x.t 6, bi x.t 7, bi x.t 8, bi x.t 9, bi x.t 10, bi x.t 11]) T ?_ (hR := fun hs => Rd.var (n := 6) (c := 6) (by repeat first | exact At.head _ _ | apply At.tail) rfl rfl (by omega))
    intro a6_ c6_
    refine ⟨Stab.nil, ?_⟩
    refine RD.p T ?_
    refine RD.k rfl rfl ?_
    refine hK4 _ _ _ ?_
    refine SW.seq_k fun K5 hK5 => ?_
    refine SW.seq_k fun K6 hK6 => ?_
    refine SW.region _ _ _ _ ?_
    refine RL.p T ?_
    refine RL.lv1 T ?_
    refine RL.nil _ _ _ _ ?_
    refine hK6 _ _ _ ?_
    refine SW.cs (fun hc1 => ?_) (fun hc1 => ?_)
    ·skip
     first
      | (exfalso; clear hK6 K6; clear hK5 K5; clear hK4 K4; clear hK2 K2; clear hK1 K1; clear hK0 K0; first | omega | contradiction | (simp at *; done) | (simp_all; done))
      | (
       refine SW.draw [(27, 0), (28, 1), (29, 2), (30, 3), (31, 4), (32, 5), (33, 6), (4, 7)] [[], [], [0, 1], [], [3], [4, 3, 2, 0, 1], [2, 0, 1, 5, 4, 3], [6, 2, 0, 1, 5, 4, 3]] mixed (by kernel_rfl) (by kernel_rfl) ?_
       refine RD.p T ?_
       refine RD.p T ?_
       refine RD.q rfl rfl (Gd.none rfl) (QV.v1 T) ?_
       refine RD.nv rfl rfl rfl (Gd.none rfl) ?_
       refine NV.buildSlice T rfl rfl rfl (Nat.le_of_ble_eq_true rfl) (by exact (rfl : _ = some [_, _])) ?_
       intro b28_2
       refine ⟨(Stab.cons rfl (Gd.none rfl) (QV.v1 T) (Stab.cons rfl (Gd.none rfl) (pev_sound T rfl) (Stab.cons rfl (Gd.none rfl) (pev_sound T rfl) Stab.nil))), ?_⟩
       refine RD.nv rfl rfl rfl (Gd.none rfl) ?_
       refine NV.apI1 (ki := .u8) T ?_
       intro a7_ c7_
       refine ⟨(Stab.cons rfl (Gd.none rfl) (QV.v1 T) (Stab.cons rfl (Gd.none rfl) (pev_sound T rfl) Stab.nil)), ?_⟩
       refine RD.nv rfl rfl rfl (Gd.none rfl) ?_
       refine NV.call rfl rfl rfl fun32 rfl rfl (rtwo x.tag hrt) ?_
       rintro _ _ ⟨bw, rfl, e⟩; obtain rfl := e.symm
       refine ⟨Stab.nil, ?_⟩
       refine RD.nv rfl rfl rfl (Gd.none rfl) ?_
       refine NV.apI1 (ki := .u8) (ys := two x.tag) T ?_ (hnews := rfl)
       intro a8_ c8_
       refine ⟨Stab.nil, ?_⟩
       refine RD.p T ?_
       refine RD.k rfl rfl ?_
       refine hK5 _ _ _ ?_
       refine SW.seq_k fun K7 hK7 => ?_
       refine SW.draw [(34, 0), (35, 1), (36, 2), (37, 3), (38, 4), (39, 5), (40, 6), (41, 7), (4, 8)] [[], [], [1], [2, 1], [0, 3, 2, 1], [], [5], [4, 0, 3, 2, 1, 6, 5], [7, 4, 0, 3, 2, 1, 6, 5]] mixed (by kernel_rfl) (by kernel_rfl) ?_
       refine RD.p T ?_
       refine RD.p T ?_
       refine RD.q rfl rfl (Gd.none rfl) (QV.v1 T) ?_
       refine RD.p T ?_
       refine RD.q rfl rfl (Gd.none rfl) (QV.v1 T) ?_
       refine RD.nv rfl rfl rfl (Gd.none rfl) ?_
       refine NV.call rfl rfl rfl fun32 rfl rfl (rtwo x.typ hry) ?_
       rintro _ _ ⟨bw, rfl, e⟩; obtain rfl := e.symm
       refine ⟨(Stab.cons rfl (Gd.none rfl) (QV.v1 T) (Stab.cons rfl (Gd.none rfl) (pev_sound T rfl) (Stab.cons rfl (Gd.none rfl) (pev_sound T rfl) Stab.nil))), ?_⟩
       refine RD.nv rfl rfl rfl (Gd.none rfl) ?_
       refine NV.apI1 (ki := .u8) (ys := two x.typ) T ?_ (hnews := rfl)
       intro a8_ c8_
       refine ⟨(Stab.cons rfl (Gd.none rfl) (QV.v1 T) (Stab.cons rfl (Gd.none rfl) (pev_sound T rfl) Stab.nil)), ?_⟩
       refine RD.nv rfl rfl rfl (Gd.none rfl) ?_
       refine NV.apI (ki := .u8) T ?_ (hR := fun hs => (by repeat first | exact hR | apply Rd.cons | apply Rd.app))
       intro a9_ c9_
       refine ⟨Stab.nil, ?_⟩
       refine RD.p T ?_
       refine RD.k rfl rfl ?_
       refine hK7 _ _ _ ?_
       refine SW.seq_k fun K8 hK8 => ?_
       refine SW.seq_k fun K9 hK9 => ?_
       refine SW.region _ _ _ _ ?_
       refine RL.p T ?_
       refine RL.p T ?_
       refine RL.p T ?_
       refine RL.nil _ _ _ _ ?_
       refine hK9 _ _ _ ?_
       refine SW.cs (fun hc2 => ?_) (fun hc2 => ?_)
       ·skip
        first
         | (exfalso; clear hK9 K9; clear hK8 K8; clear hK7 K7; clear hK6 K6; clear hK5 K5; clear hK4 K4; clear hK2 K2; clear hK1 K1; clear hK0 K0; first | omega | contradiction | (simp at *; done) | (simp_all; done))
         | (
          refine SW.seq_k fun K10 hK10 => ?_
          refine SW.region _ _ _ _ ?_
          refine RL.p T ?_
          refine RL.p T ?_
          refine RL.nil _ _ _ _ ?_
          refine hK10 _ _ _ ?_
          refine SW.ret ?_
          have hL : (((((([] ++ [bi x.t 0, bi x.t 1, bi x.t 2, bi x.t 3, bi x.t 4, bi x.t 5]) ++ [bi x.t 6, bi x.t 7, bi x.t 8, bi x.t 9, bi x.t 10, bi x.t 11]) ++ [129, 0]) ++ two x.tag) ++ two x.typ) ++ x.data) = ethB x := by unfold ethB ethH; rw [ht]; simp [two]; try rfl
          refine retQ.rr ((.row a9_ (0 + 6 + 6 + 2 + 2 + 2 + n) c9_ 5 1 ((((((([] ++ [bi x.t 0, bi x.t 1, bi x.t 2, bi x.t 3, bi x.t 4, bi x.t 5]) ++ [bi x.t 6, bi x.t 7, bi x.t 8, bi x.t 9, bi x.t 10, bi x.t 11]) ++ [129, 0]) ++ two x.tag) ++ two x.typ) ++ x.data).map (.int .u8)) :: H)) ?_
          clear hK10 K10 hK9 K9 hK8 K8 hK7 K7 hK6 K6 hK5 K5 hK4 K4 hK2 K2 hK1 K1 hK0 K0
          have hol : (ethB x).length = 0 + 6 + 6 + 2 + 2 + 2 + n := by rw [ethB_len, ethL, ht, hn]; simp <;> omega
          exact ⟨a9_, c9_, by rw [hol]; rfl, by rw [hol, hL]⟩
          )
       ·skip
        first
         | (exfalso; clear hK9 K9; clear hK8 K8; clear hK7 K7; clear hK6 K6; clear hK5 K5; clear hK4 K4; clear hK2 K2; clear hK1 K1; clear hK0 K0; first | omega | contradiction | (simp at *; done) | (simp_all; done))
         | (
          refine SW.skip ?_
          refine hK8 _ _ _ ?_
          refine SW.seq_k fun K11 hK11 => ?_
          refine SW.region _ _ _ _ ?_
          refine RL.p T ?_
          refine RL.p T ?_
          refine RL.p T ?_
          refine RL.nil _ _ _ _ ?_
          refine hK11 _ _ _ ?_
          refine SW.ret ?_
          have hL : (((((([] ++ [bi x.t 0, bi x.t 1, bi x.t 2, bi x.t 3, bi x.t 4, bi x.t 5]) ++ [bi x.t 6, bi x.t 7, bi x.t 8, bi x.t 9, bi x.t 10, bi x.t 11]) ++ [129, 0]) ++ two x.tag) ++ two x.typ) ++ x.data) = ethB x := by unfold ethB ethH; rw [ht]; simp [two]; try rfl
          refine retQ.rr ((.row a9_ (0 + 6 + 6 + 2 + 2 + 2 + n) c9_ 5 1 ((((((([] ++ [bi x.t 0, bi x.t 1, bi x.t 2, bi x.t 3, bi x.t 4, bi x.t 5]) ++ [bi x.t 6, bi x.t 7, bi x.t 8, bi x.t 9, bi x.t 10, bi x.t 11]) ++ [129, 0]) ++ two x.tag) ++ two x.typ) ++ x.data).map (.int .u8)) :: H)) ?_
          clear hK11 K11 hK9 K9 hK8 K8 hK7 K7 hK6 K6 hK5 K5 hK4 K4 hK2 K2 hK1 K1 hK0 K0
          have hol : (ethB x).length = 0 + 6 + 6 + 2 + 2 + 2 + n := by rw [ethB_len, ethL, ht, hn]; simp <;> omega
          exact ⟨a9_, c9_, by rw [hol]; rfl, by rw [hol, hL]⟩
          )
       )
    ·skip
     first
      | (exfalso; clear hK6 K6; clear hK5 K5; clear hK4 K4; clear hK2 K2; clear hK1 K1; clear hK0 K0; first | omega | contradiction | (simp at *; done) | (simp_all; done))
      | (
       refine SW.skip ?_
       refine hK5 _ _ _ ?_
       refine SW.seq_k fun K12 hK12 => ?_
       refine SW.draw [(34, 0), (35, 1), (36, 2), (37, 3), (38, 4), (39, 5), (40, 6), (41, 7), (4, 8)] [[], [], [1], [2, 1], [0, 3, 2, 1], [], [5], [4, 0, 3, 2, 1, 6, 5], [7, 4, 0, 3, 2, 1, 6, 5]] mixed (by kernel_rfl) (by kernel_rfl) ?_
       refine RD.p T ?_
       refine RD.p T ?_
       refine RD.q rfl rfl (Gd.none rfl) (QV.v1 T) ?_
       refine RD.p T ?_
       refine RD.q rfl rfl (Gd.none rfl) (QV.v1 T) ?_
       refine RD.nv rfl rfl rfl (Gd.none rfl) ?_
       refine NV.call rfl rfl rfl fun32 rfl rfl (rtwo x.typ hry) ?_
       rintro _ _ ⟨bw, rfl, e⟩; obtain rfl := e.symm
       refine ⟨(Stab.cons rfl (Gd.none rfl) (QV.v1 T) (Stab.cons rfl (Gd.none rfl) (pev_sound T rfl) (Stab.cons rfl (Gd.none rfl) (pev_sound T rfl) Stab.nil))), ?_⟩
       refine RD.nv rfl rfl rfl (Gd.none rfl) ?_
       refine NV.apI1 (ki := .u8) (ys := two x.typ) T ?_ (hnews := rfl)
       intro a8_ c8_
       refine ⟨(Stab.cons rfl (Gd.none rfl) (QV.v1 T) (Stab.cons rfl (Gd.none rfl) (pev_sound T rfl) Stab.nil)), ?_⟩
       refine RD.nv rfl rfl rfl (Gd.none rfl) ?_
       refine NV.apI (ki := .u8) T ?_ (hR := fun hs => (by repeat first | exact hR | apply Rd.cons | apply Rd.app))
       intro a9_ c9_
       refine ⟨Stab.nil, ?_⟩
       refine RD.p T ?_
       refine RD.k rfl rfl ?_
       refine hK12 _ _ _ ?_
       refine SW.seq_k fun K13 hK13 => ?_
       refine SW.seq_k fun K14 hK14 => ?_
       refine SW.region _ _ _ _ ?_
       refine RL.p T ?_
       refine RL.p T ?_
       refine RL.p T ?_
       refine RL.nil _ _ _ _ ?_
       refine hK14 _ _ _ ?_
       refine SW.cs (fun hc3 => ?_) (fun hc3 => ?_)
       ·skip
        first
         | (exfalso; clear hK14 K14; clear hK13 K13; clear hK12 K12; clear hK6 K6; clear hK5 K5; clear hK4 K4; clear hK2 K2; clear hK1 K1; clear hK0 K0; first | omega | contradiction | (simp at *; done) | (simp_all; done))
         | (
          refine SW.seq_k fun K15 hK15 => ?_
          refine SW.region _ _ _ _ ?_
          refine RL.p T ?_
          refine RL.p T ?_
          refine RL.nil _ _ _ _ ?_
          refine hK15 _ _ _ ?_
          refine SW.ret ?_
          have hL : (((((([] ++ [bi x.t 0, bi x.t 1, bi x.t 2, bi x.t 3, bi x.t 4, bi x.t 5]) ++ [bi x.t 6, bi x.t 7, bi x.t 8, bi x.t 9, bi x.t 10, bi x.t 11]) ++ [129, 0]) ++ two x.tag) ++ two x.typ) ++ x.data) = ethB x := by unfold ethB ethH; rw [ht]; simp [two]; try rfl
          refine retQ.rr ((.row a9_ (0 + 6 + 6 + 2 + 2 + 2 + n) c9_ 5 1 ((((((([] ++ [bi x.t 0, bi x.t 1, bi x.t 2, bi x.t 3, bi x.t 4, bi x.t 5]) ++ [bi x.t 6, bi x.t 7, bi x.t 8, bi x.t 9, bi x.t 10, bi x.t 11]) ++ [129, 0]) ++ two x.tag) ++ two x.typ) ++ x.data).map (.int .u8)) :: H)) ?_
          clear hK15 K15 hK14 K14 hK13 K13 hK12 K12 hK6 K6 hK5 K5 hK4 K4 hK2 K2 hK1 K1 hK0 K0
          have hol : (ethB x).length = 0 + 6 + 6 + 2 + 2 + 2 + n := by rw [ethB_len, ethL, ht, hn]; simp <;> omega
          exact ⟨a9_, c9_, by rw [hol]; rfl, by rw [hol, hL]⟩
          )
       ·skip
        first
         | (exfalso; clear hK14 K14; clear hK13 K13; clear hK12 K12; clear hK6 K6; clear hK5 K5; clear hK4 K4; clear hK2 K2; clear hK1 K1; clear hK0 K0; first | omega | contradiction | (simp at *; done) | (simp_all; done))
         | (
          refine SW.skip ?_
          refine hK13 _ _ _ ?_
          refine SW.seq_k fun K16 hK16 => ?_
          refine SW.region _ _ _ _ ?_
          refine RL.p T ?_
          refine RL.p T ?_
          refine RL.p T ?_
          refine RL.nil _ _ _ _ ?_
          refine hK16 _ _ _ ?_
          refine SW.ret ?_
          have hL : (((((([] ++ [bi x.t 0, bi x.t 1, bi x.t 2, bi x.t 3, bi x.t 4, bi x.t 5]) ++ [bi x.t 6, bi x.t 7, bi x.t 8, bi x.t 9, bi x.t 10, bi x.t 11]) ++ [129, 0]) ++ two x.tag) ++ two x.typ) ++ x.data) = ethB x := by unfold ethB ethH; rw [ht]; simp [two]; try rfl
          refine retQ.rr ((.row a9_ (0 + 6 + 6 + 2 + 2 + 2 + n) c9_ 5 1 ((((((([] ++ [bi x.t 0, bi x.t 1, bi x.t 2, bi x.t 3, bi x.t 4, bi x.t 5]) ++ [bi x.t 6, bi x.t 7, bi x.t 8, bi x.t 9, bi x.t 10, bi x.t 11]) ++ [129, 0]) ++ two x.tag) ++ two x.typ) ++ x.data).map (.int .u8)) :: H)) ?_
          clear hK16 K16 hK14 K14 hK13 K13 hK12 K12 hK6 K6 hK5 K5 hK4 K4 hK2 K2 hK1 K1 hK0 K0
          have hol : (ethB x).length = 0 + 6 + 6 + 2 + 2 + 2 + n := by rw [ethB_len, ethL, ht, hn]; simp <;> omega
          exact ⟨a9_, c9_, by rw [hol]; rfl, by rw [hol, hL]⟩
          )
       )
    )
theorem rputeth_tl {w0 : World} {H : List Chunk} (x : Eth) (sa : Option Addr) (n c : Nat) (hR : Rd w0 H sa n c 1 (x.data.map (.int .u8))) (hn : n = x.data.length) (hm : n ≤ 100000) (he : EOk x) (ht : x.tagged = true) (hl : 2048 < 14 + n + 4) : SC Try.prog w0 16 #[EA x sa n c] H (fun v H' => v = .tuple #[.slice none 0 0, .int .i64 2] ∧ H' = H) := by
 refine SC.enter Try.func16 rfl (Nat.le_of_ble_eq_true rfl) ?_
 refine SW.seq_k fun K0 hK0 => ?_
 have hrt := he.tag
 have hry := he.typ
 have hbt := bi_rng he.byte
 refine SW.region _ _ _ _ ?_
 refine RL.s ?_
 refine NV.box rfl (by exact (rfl : _ = [_, _, _, _, _, _, _, _, _, _, _, _, _, _, _, _])) ?_
 intro b1_0
 refine RL.p T ?_
 refine RL.p T ?_
 refine RL.nil _ _ _ _ ?_
 refine hK0 _ _ _ ?_
 refine SW.seq_k fun K1 hK1 => ?_
 refine SW.seq_k fun K2 hK2 => ?_
 refine SW.region _ _ _ _ ?_
 refine RL.p T ?_
 refine RL.lv1 T ?_
 refine RL.p T ?_
 refine RL.p T ?_
 refine RL.join (fr1 := ?_) 8 8 true [9, 10, 11, 12, 13, 14, 15, 16] (fun hs0 hj => ?_) ?_ ?_
 rotate_left
 ·have hs0j := hs0
  try simp only [decide_eq_true_eq, Bool.not_eq_true', decide_eq_false_iff_not, Bool.not_eq_false', Int.not_lt, Int.not_le, Int.toNat_natCast, Bool.and_eq_true, Bool.or_eq_true, Bool.and_eq_false_iff, Bool.or_eq_false_iff] at hs0
  refine RL.p T ?_
  refine RL.lv1 T ?_
  refine RL.p T ?_
  refine RL.p T ?_
  refine RL.join (fr1 := ?_) 3 12 false [13, 14, 15] (fun hs1 hj => ?_) ?_ ?_
  rotate_left
  ·have hs1j := hs1
   try simp only [decide_eq_true_eq, Bool.not_eq_true', decide_eq_false_iff_not, Bool.not_eq_false', Int.not_lt, Int.not_le, Int.toNat_natCast, Bool.and_eq_true, Bool.or_eq_true, Bool.and_eq_false_iff, Bool.or_eq_false_iff] at hs1
   refine RL.p T ?_
   refine RL.lv1 T ?_
   refine RL.p T ?_
   exact hj
  ·repeat first | exact Mx.refl | exact Mx.mix | refine Mx.put rfl ?_ | refine Mx.upd rfl ?_ | refine Mx.updl rfl ?_ | refine Mx.fin rfl ?_ | refine Mx.inner rfl ?_ | refine Mx.none ?_
  refine RL.or ?_
  exact hj
 ·repeat first | exact Mx.refl | exact Mx.mix | refine Mx.put rfl ?_ | refine Mx.upd rfl ?_ | refine Mx.updl rfl ?_ | refine Mx.fin rfl ?_ | refine Mx.inner rfl ?_ | refine Mx.none ?_
 refine RL.and ?_
 refine RL.nil _ _ _ _ ?_
 refine hK2 _ _ _ ?_
 refine SW.cs (fun hc0 => ?_) (fun hc0 => ?_)
 ·skip
  first
   | (exfalso; clear hK2 K2; clear hK1 K1; clear hK0 K0; first | omega | contradiction | (simp at *; done) | (simp_all; done))
   | (
    refine SW.seq_k fun K3 hK3 => ?_
    refine SW.region _ _ _ _ ?_
    refine RL.p T ?_
    refine RL.p T ?_
    refine RL.nil _ _ _ _ ?_
    refine hK3 _ _ _ ?_
    refine SW.ret ?_
    refine retQ.rr (H) ?_
    clear hK3 K3 hK2 K2 hK1 K1 hK0 K0
    exact ⟨rfl, rfl⟩
    )
 ·skip
  first
   | (exfalso; clear hK2 K2; clear hK1 K1; clear hK0 K0; first | omega | contradiction | (simp at *; done) | (simp_all; done))
   | (
    refine SW.skip ?_
    refine hK1 _ _ _ ?_
    refine SW.seq_k fun K4 hK4 => ?_
    refine SW.draw [(18, 0), (19, 1), (20, 2), (21, 3), (22, 4), (23, 5), (24, 6), (4, 7)] [[], [], [1], [0, 2, 1], [], [4], [3, 0, 2, 1, 5, 4], [6, 3, 0, 2, 1, 5, 4]] mixed (by kernel_rfl) (by kernel_rfl) ?_
    refine RD.p T ?_
    refine RD.q rfl rfl (Gd.none rfl) (QV.slA T rfl rfl rfl rfl) ?_
    refine RD.p T ?_
    refine RD.q rfl rfl (Gd.none rfl) (QV.slA T rfl rfl rfl rfl) ?_
    refine RD.nv rfl rfl rfl (Gd.none rfl) ?_
    refine NV.buildSlice T rfl rfl rfl (Nat.le_of_ble_eq_true rfl) (by exact (rfl : _ = some [])) ?_
    intro b18_1
    refine ⟨(Stab.cons rfl (Gd.none rfl) (QV.slA T rfl rfl rfl rfl) (Stab.cons rfl (Gd.none rfl) (pev_sound T rfl) (Stab.cons rfl (Gd.none rfl) (QV.slA T rfl rfl rfl rfl) (Stab.cons rfl (Gd.none rfl) (pev_sound T rfl) Stab.nil)))), ?_⟩
    refine RD.nv rfl rfl rfl (Gd.none rfl) ?_
    refine NV.apI (ki := .u8) (m := 6) (xs := []) (ys := [bi x.t 0, bi x.t 1, bi x.t 2, bi x.t 3, bi x.t 4, bi x.t 5]) T ?_ (hR := fun hs => Rd.var (n := 6) (c := 6) (by repeat first | exact At.head _ _ | apply At.tail) rfl rfl (by omega))
    intro a0_ c0_
    refine ⟨(Stab.cons rfl (Gd.none rfl) (QV.slA T rfl rfl rfl rfl) (Stab.cons rfl (Gd.none rfl) (pev_sound T rfl) Stab.nil)), ?_⟩
    refine RD.nv rfl rfl rfl (Gd.none rfl) ?_
    refine NV.apI (ki := .u8) (m := 6) (ys := [bi x.t 6, bi x.t 7, bi x.t 8, bi x.t 9, bi x.t 10, bi x.t 11]) T ?_ (hR := fun hs => Rd.var (n := 6) (c := 6) (by repeat first | exact At.head _ _ | apply At.tail) rfl rfl (by omega))
    intro a6_ c6_
    refine ⟨Stab.nil, ?_⟩
    refine RD.p T ?_
    refine RD.k rfl rfl ?_
    refine hK4 _ _ _ ?_
    refine SW.seq_k fun K5 hK5 => ?_
    refine SW.seq_k fun K6 hK6 => ?_
    refine SW.region _ _ _ _ ?_
    refine RL.p T ?_
    refine RL.lv1 T ?_
    refine RL.nil _ _ _ _ ?_
    refine hK6 _ _ _ ?_
    refine SW.cs (fun hc1 => ?_) (fun hc1 => ?_)
    ·skip
     first
      | (exfalso; clear hK6 K6; clear hK5 K5; clear hK4 K4; clear hK2 K2; clear hK1 K1; clear hK0 K0; first | omega | contradiction | (simp at *; done) | (simp_all; done))
      | (
       refine SW.draw [(27, 0), (28, 1), (29, 2), (30, 3), (31, 4), (32, 5), (33, 6), (4, 7)] [[], [], [0, 1], [], [3], [4, 3, 2, 0, 1], [2, 0, 1, 5, 4, 3], [6, 2, 0, 1, 5, 4, 3]] mixed (by kernel_rfl) (by kernel_rfl) ?_
       refine RD.p T ?_
       refine RD.p T ?_
       refine RD.q rfl rfl (Gd.none rfl) (QV.v1 T) ?_
       refine RD.nv rfl rfl rfl (Gd.none rfl) ?_
       refine NV.buildSlice T rfl rfl rfl (Nat.le_of_ble_eq_true rfl) (by exact (rfl : _ = some [_, _])) ?_
       intro b28_2
       refine ⟨(Stab.cons rfl (Gd.none rfl) (QV.v1 T) (Stab.cons rfl (Gd.none rfl) (pev_sound T rfl) (Stab.cons rfl (Gd.none rfl) (pev_sound T rfl) Stab.nil))), ?_⟩
       refine RD.nv rfl rfl rfl (Gd.none rfl) ?_
       refine NV.apI1 (ki := .u8) T ?_
       intro a7_ c7_
       refine ⟨(Stab.cons rfl (Gd.none rfl) (QV.v1 T) (Stab.cons rfl (Gd.none rfl) (pev_sound T rfl) Stab.nil)), ?_⟩
       refine RD.nv rfl rfl rfl (Gd.none rfl) ?_
       refine NV.call rfl rfl rfl fun32 rfl rfl (rtwo x.tag hrt) ?_
       rintro _ _ ⟨bw, rfl, e⟩; obtain rfl := e.symm
       refine ⟨Stab.nil, ?_⟩
       refine RD.nv rfl rfl rfl (Gd.none rfl) ?_
       refine NV.apI1 (ki := .u8) (ys := two x.tag) T ?_ (hnews := rfl)
       intro a8_ c8_
       refine ⟨Stab.nil, ?_⟩
       refine RD.p T ?_
       refine RD.k rfl rfl ?_
       refine hK5 _ _ _ ?_
       refine SW.seq_k fun K7 hK7 => ?_
       refine SW.draw [(34, 0), (35, 1), (36, 2), (37, 3), (38, 4), (39, 5), (40, 6), (41, 7), (4, 8)] [[], [], [1], [2, 1], [0, 3, 2, 1], [], [5], [4, 0, 3, 2, 1, 6, 5], [7, 4, 0, 3, 2, 1, 6, 5]] mixed (by kernel_rfl) (by kernel_rfl) ?_
       refine RD.p T ?_
       refine RD.p T ?_
       refine RD.q rfl rfl (Gd.none rfl) (QV.v1 T) ?_
       refine RD.p T ?_
       refine RD.q rfl rfl (Gd.none rfl) (QV.v1 T) ?_
       refine RD.nv rfl rfl rfl (Gd.none rfl) ?_
       refine NV.call rfl rfl rfl fun32 rfl rfl (rtwo x.typ hry) ?_
       rintro _ _ ⟨bw, rfl, e⟩; obtain rfl := e.symm
       refine ⟨(Stab.cons rfl (Gd.none rfl) (QV.v1 T) (Stab.cons rfl (Gd.none rfl) (pev_sound T rfl) (Stab.cons rfl (Gd.none rfl) (pev_sound T rfl) Stab.nil))), ?_⟩
       refine RD.nv rfl rfl rfl (Gd.none rfl) ?_
       refine NV.apI1 (ki := .u8) (ys := two x.typ) T ?_ (hnews := rfl)
       intro a8_ c8_
       refine ⟨(Stab.cons rfl (Gd.none rfl) (QV.v1 T) (Stab.cons rfl (Gd.none rfl) (pev_sound T rfl) Stab.nil)), ?_⟩
       refine RD.nv rfl rfl rfl (Gd.none rfl) ?_
       refine NV.apI (ki := .u8) T ?_ (hR := fun hs => (by repeat first | exact hR | apply Rd.cons | apply Rd.app))
       intro a9_ c9_
       refine ⟨Stab.nil, ?_⟩
       refine RD.p T ?_
       refine RD.k rfl rfl ?_
       refine hK7 _ _ _ ?_
       refine SW.seq_k fun K8 hK8 => ?_
       refine SW.seq_k fun K9 hK9 => ?_
       refine SW.region _ _ _ _ ?_
       refine RL.p T ?_
       refine RL.p T ?_
       refine RL.p T ?_
       refine RL.nil _ _ _ _ ?_
       refine hK9 _ _ _ ?_
       refine SW.cs (fun hc2 => ?_) (fun hc2 => ?_)
       ·skip
        first
         | (exfalso; clear hK9 K9; clear hK8 K8; clear hK7 K7; clear hK6 K6; clear hK5 K5; clear hK4 K4; clear hK2 K2; clear hK1 K1; clear hK0 K0; first | omega | contradiction | (simp at *; done) | (simp_all; done))
         | (
          refine SW.seq_k fun K10 hK10 => ?_
          refine SW.region _ _ _ _ ?_
          refine RL.p T ?_
          refine RL.p T ?_
          refine RL.nil _ _ _ _ ?_
          refine hK10 _ _ _ ?_
          refine SW.ret ?_
          refine retQ.rr (H) ?_
          clear hK10 K10 hK9 K9 hK8 K8 hK7 K7 hK6 K6 hK5 K5 hK4 K4 hK2 K2 hK1 K1 hK0 K0
          exact ⟨rfl, rfl⟩
          )
       ·skip
        first
         | (exfalso; clear hK9 K9; clear hK8 K8; clear hK7 K7; clear hK6 K6; clear hK5 K5; clear hK4 K4; clear hK2 K2; clear hK1 K1; clear hK0 K0; first | omega | contradiction | (simp at *; done) | (simp_all; done))
         | (
          refine SW.skip ?_
          refine hK8 _ _ _ ?_
          refine SW.seq_k fun K11 hK11 => ?_
          refine SW.region _ _ _ _ ?_
          refine RL.p T ?_
          refine RL.p T ?_
          refine RL.p T ?_
          refine RL.nil _ _ _ _ ?_
          refine hK11 _ _ _ ?_
          refine SW.ret ?_
          refine retQ.rr (H) ?_
          clear hK11 K11 hK9 K9 hK8 K8 hK7 K7 hK6 K6 hK5 K5 hK4 K4 hK2 K2 hK1 K1 hK0 K0
          exact ⟨rfl, rfl⟩
          )
       )
    ·skip
     first
      | (exfalso; clear hK6 K6; clear hK5 K5; clear hK4 K4; clear hK2 K2; clear hK1 K1; clear hK0 K0; first | omega | contradiction | (simp at *; done) | (simp_all; done))
      | (
       refine SW.skip ?_
       refine hK5 _ _ _ ?_
       refine SW.seq_k fun K12 hK12 => ?_
       refine SW.draw [(34, 0), (35, 1), (36, 2), (37, 3), (38, 4), (39, 5), (40, 6), (41, 7), (4, 8)] [[], [], [1], [2, 1], [0, 3, 2, 1], [], [5], [4, 0, 3, 2, 1, 6, 5], [7, 4, 0, 3, 2, 1, 6, 5]] mixed (by kernel_rfl) (by kernel_rfl) ?_
       refine RD.p T ?_
       refine RD.p T ?_
       refine RD.q rfl rfl (Gd.none rfl) (QV.v1 T) ?_
       refine RD.p T ?_
       refine RD.q rfl rfl (Gd.none rfl) (QV.v1 T) ?_
       refine RD.nv rfl rfl rfl (Gd.none rfl) ?_
       refine NV.call rfl rfl rfl fun32 rfl rfl (rtwo x.typ hry) ?_
       rintro _ _ ⟨bw, rfl, e⟩; obtain rfl := e.symm
       refine ⟨(Stab.cons rfl (Gd.none rfl) (QV.v1 T) (Stab.cons rfl (Gd.none rfl) (pev_sound T rfl) (Stab.cons rfl (Gd.none rfl) (pev_sound T rfl) Stab.nil))), ?_⟩
       refine RD.nv rfl rfl rfl (Gd.none rfl) ?_
       refine NV.apI1 (ki := .u8) (ys := two x.typ) T ?_ (hnews := rfl)
       intro a8_ c8_
       refine ⟨(Stab.cons rfl (Gd.none rfl) (QV.v1 T) (Stab.cons rfl (Gd.none rfl) (pev_sound T rfl) Stab.nil)), ?_⟩
       refine RD.nv rfl rfl rfl (Gd.none rfl) ?_
       refine NV.apI (ki := .u8) T ?_ (hR := fun hs => (by repeat first | exact hR | apply Rd.cons | apply Rd.app))
       intro a9_ c9_
       refine ⟨Stab.nil, ?_⟩
       refine RD.p T ?_
       refine RD.k rfl rfl ?_
       refine hK12 _ _ _ ?_
       refine SW.seq_k fun K13 hK13 => ?_
       refine SW.seq_k fun K14 hK14 => ?_
       refine SW.region _ _ _ _ ?_
       refine RL.p T ?_
       refine RL.p T ?_
       refine RL.p T ?_
       refine RL.nil _ _ _ _ ?_
       refine hK14 _ _ _ ?_
       refine SW.cs (fun hc3 => ?_) (fun hc3 => ?_)
       ·skip
        first
         | (exfalso; clear hK14 K14; clear hK13 K13; clear hK12 K12; clear hK6 K6; clear hK5 K5; clear hK4 K4; clear hK2 K2; clear hK1 K1; clear hK0 K0; first | omega | contradiction | (simp at *; done) | (simp_all; done))
         | (
          refine SW.seq_k fun K15 hK15 => ?_
          refine SW.region _ _ _ _ ?_
          refine RL.p T ?_
          refine RL.p T ?_
          refine RL.nil _ _ _ _ ?_
          refine hK15 _ _ _ ?_
          refine SW.ret ?_
          refine retQ.rr (H) ?_
          clear hK15 K15 hK14 K14 hK13 K13 hK12 K12 hK6 K6 hK5 K5 hK4 K4 hK2 K2 hK1 K1 hK0 K0
          exact ⟨rfl, rfl⟩
          )
       ·skip
        first
         | (exfalso; clear hK14 K14; clear hK13 K13; clear hK12 K12; clear hK6 K6; clear hK5 K5; clear hK4 K4; clear hK2 K2; clear hK1 K1; clear hK0 K0; first | omega | contradiction | (simp at *; done) | (simp_all; done))
         | (
          refine SW.skip ?_
          refine hK13 _ _ _ ?_
          refine SW.seq_k fun K16 hK16 => ?_
          refine SW.region _ _ _ _ ?_
          refine RL.p T ?_
          refine RL.p T ?_
          refine RL.p T ?_
          refine RL.nil _ _ _ _ ?_
          refine hK16 _ _ _ ?_
          refine SW.ret ?_
          refine retQ.rr (H) ?_
          clear hK16 K16 hK14 K14 hK13 K13 hK12 K12 hK6 K6 hK5 K5 hK4 K4 hK2 K2 hK1 K1 hK0 K0
          exact ⟨rfl, rfl⟩
          )
       )
    )
theorem rputeth_f {w0 : World} {H : List Chunk} (x : Eth) (sa : Option Addr) (n c : Nat) (hR : Rd w0 H sa n c 1 (x.data.map (.int .u8))) (hn : n = x.data.length) (hm : n ≤ 100000) (he : EOk x) (ht : x.tagged = false) (hl : 14 + n + 0 ≤ 2048) (hz : x.tag = 0 ∧ x.typ ≠ 33024) : SC Try.prog w0 16 #[EA x sa n c] H (fun v H' => ∃ a c, v = .tuple #[.slice a (ethB x).length c, .int .i64 0] ∧ H' = .row a (ethB x).length c 5 1 ((ethB x).map (.int .u8)) :: H) := by
 refine SC.enter Try.func16 rfl (Nat.le_of_ble_eq_true rfl) ?_
 refine SW.seq_k fun K0 hK0 => ?_
 have hrt := he.tag
 have hry := he.typ
 have hbt := bi_rng he.byte
 refine SW.region _ _ _ _ ?_
 refine RL.s ?_
 refine NV.box rfl (by exact (rfl : _ = [_, _, _, _, _, _, _, _, _, _, _, _, _, _, _, _])) ?_
 intro b1_0
 refine RL.p T ?_
 refine RL.p T ?_
 refine RL.nil _ _ _ _ ?_
 refine hK0 _ _ _ ?_
 refine SW.seq_k fun K1 hK1 => ?_
 refine SW.seq_k fun K2 hK2 => ?_
 refine SW.region _ _ _ _ ?_
 refine RL.p T ?_
 refine RL.lv1 T ?_
 refine RL.p T ?_
 refine RL.p T ?_
 refine RL.join (fr1 := ?_) 8 8 true [9, 10, 11, 12, 13, 14, 15, 16] (fun hs0 hj => ?_) ?_ ?_
 rotate_left
 ·have hs0j := hs0
  try simp only [decide_eq_true_eq, Bool.not_eq_true', decide_eq_false_iff_not, Bool.not_eq_false', Int.not_lt, Int.not_le, Int.toNat_natCast, Bool.and_eq_true, Bool.or_eq_true, Bool.and_eq_false_iff, Bool.or_eq_false_iff] at hs0
  refine RL.p T ?_
  refine RL.lv1 T ?_
  refine RL.p T ?_
  refine RL.p T ?_
  refine RL.join (fr1 := ?_) 3 12 false [13, 14, 15] (fun hs1 hj => ?_) ?_ ?_
  rotate_left
  ·have hs1j := hs1
   try simp only [decide_eq_true_eq, Bool.not_eq_true', decide_eq_false_iff_not, Bool.not_eq_false', Int.not_lt, Int.not_le, Int.toNat_natCast, Bool.and_eq_true, Bool.or_eq_true, Bool.and_eq_false_iff, Bool.or_eq_false_iff] at hs1
   refine RL.p T ?_
   refine RL.lv1 T ?_
   refine RL.p T ?_
   exact hj
  ·repeat first | exact Mx.refl | exact Mx.mix | refine Mx.put rfl ?_ | refine Mx.upd rfl ?_ | refine Mx.updl rfl ?_ | refine Mx.fin rfl ?_ | refine Mx.inner rfl ?_ | refine Mx.none ?_
  refine RL.or ?_
  exact hj
 ·repeat first | exact Mx.refl | exact Mx.mix | refine Mx.put rfl ?_ | refine Mx.upd rfl ?_ | refine Mx.updl rfl ?_ | refine Mx.fin rfl ?_ | refine Mx.inner rfl ?_ | refine Mx.none ?_
 refine RL.and ?_
 refine RL.nil _ _ _ _ ?_
 refine hK2 _ _ _ ?_
 refine SW.cs (fun hc0 => ?_) (fun hc0 => ?_)
 ·skip
  first
   | (exfalso; clear hK2 K2; clear hK1 K1; clear hK0 K0; first | omega | contradiction | (simp at *; done) | (simp_all; done))
   | (
    refine SW.seq_k fun K3 hK3 => ?_
    refine SW.region _ _ _ _ ?_
    refine RL.p T ?_
    refine RL.p T ?_
    refine RL.nil _ _ _ _ ?_
    refine hK3 _ _ _ ?_
    refine SW.ret ?_
    have hL : (((([] ++ [bi x.t 0, bi x.t 1, bi x.t 2, bi x.t 3, bi x.t 4, bi x.t 5]) ++ [bi x.t 6, bi x.t 7, bi x.t 8, bi x.t 9, bi x.t 10, bi x.t 11]) ++ two x.typ) ++ x.data) = ethB x := by unfold ethB ethH; rw [ht]; simp [two]; try rfl
    refine retQ.rr ((.row a9_ (0 + 6 + 6 + 2 + n) c9_ 5 1 ((((([] ++ [bi x.t 0, bi x.t 1, bi x.t 2, bi x.t 3, bi x.t 4, bi x.t 5]) ++ [bi x.t 6, bi x.t 7, bi x.t 8, bi x.t 9, bi x.t 10, bi x.t 11]) ++ two x.typ) ++ x.data).map (.int .u8)) :: H)) ?_
    clear hK3 K3 hK2 K2 hK1 K1 hK0 K0
    have hol : (ethB x).length = 0 + 6 + 6 + 2 + n := by rw [ethB_len, ethL, ht, hn]; simp <;> omega
    exact ⟨a9_, c9_, by rw [hol]; rfl, by rw [hol, hL]⟩
    )
 ·skip
  first
   | (exfalso; clear hK2 K2; clear hK1 K1; clear hK0 K0; first | omega | contradiction | (simp at *; done) | (simp_all; done))
   | (
    refine SW.skip ?_
    refine hK1 _ _ _ ?_
    refine SW.seq_k fun K4 hK4 => ?_
    refine SW.draw [(18, 0), (19, 1), (20, 2), (21, 3), (22, 4), (23, 5), (24, 6), (4, 7)] [[], [], [1], [0, 2, 1], [], [4], [3, 0, 2, 1, 5, 4], [6, 3, 0, 2, 1, 5, 4]] mixed (by kernel_rfl) (by kernel_rfl) ?_
    refine RD.p T ?_
    refine RD.q rfl rfl (Gd.none rfl) (QV.slA T rfl rfl rfl rfl) ?_
    refine RD.p T ?_
    refine RD.q rfl rfl (Gd.none rfl) (QV.slA T rfl rfl rfl rfl) ?_
    refine RD.nv rfl rfl rfl (Gd.none rfl) ?_
    refine NV.buildSlice T rfl rfl rfl (Nat.le_of_ble_eq_true rfl) (by exact (rfl : _ = some [])) ?_
    intro b18_1
    refine ⟨(Stab.cons rfl (Gd.none rfl) (QV.slA T rfl rfl rfl rfl) (Stab.cons rfl (Gd.none rfl) (pev_sound T rfl) (Stab.cons rfl (Gd.none rfl) (QV.slA T rfl rfl rfl rfl) (Stab.cons rfl (Gd.none rfl) (pev_sound T rfl) Stab.nil)))), ?_⟩
    refine RD.nv rfl rfl rfl (Gd.none rfl) ?_
    refine NV.apI (ki := .u8) (m := 6) (xs := []) (ys := [bi x.t 0, bi x.t 1, bi x.t 2, bi x.t 3, bi x.t 4, bi x.t 5]) T ?_ (hR := fun hs => Rd.var (n := 6) (c := 6) (by repeat first | exact At.head _ _ | apply At.tail) rfl rfl (by omega))
    intro a0_ c0_
    refine ⟨(Stab.cons rfl (Gd.none rfl) (QV.slA T rfl rfl rfl rfl) (Stab.cons rfl (Gd.none rfl) (pev_sound T rfl) Stab.nil)), ?_⟩
    refine RD.nv rfl rfl rfl (Gd.none rfl) ?_
    refine NV.apI (ki := .u8) (m := 6) (ys := [bi x.t 6, bi x.t 7, bi x.t 8, bi x.t 9, bi x.t 10, bi x.t 11]) T ?_ (hR := fun hs => Rd.var (n := 6) (c := 6) (by repeat first | exact At.head _ _ | apply At.tail) rfl rfl (by omega))
    intro a6_ c6_
    refine ⟨Stab.nil, ?_⟩
    refine RD.p T ?_
    refine RD.k rfl rfl ?_
    refine hK4 _ _ _ ?_
    refine SW.seq_k fun K5 hK5 => ?_
    refine SW.seq_k fun K6 hK6 => ?_
    refine SW.region _ _ _ _ ?_
    refine RL.p T ?_
    refine RL.lv1 T ?_
    refine RL.nil _ _ _ _ ?_
    refine hK6 _ _ _ ?_
    refine SW.cs (fun hc1 => ?_) (fun hc1 => ?_)
    ·skip
     first
      | (exfalso; clear hK6 K6; clear hK5 K5; clear hK4 K4; clear hK2 K2; clear hK1 K1; clear hK0 K0; first | omega | contradiction | (simp at *; done) | (simp_all; done))
      | (
       refine SW.draw [(27, 0), (28, 1), (29, 2), (30, 3), (31, 4), (32, 5), (33, 6), (4, 7)] [[], [], [0, 1], [], [3], [4, 3, 2, 0, 1], [2, 0, 1, 5, 4, 3], [6, 2, 0, 1, 5, 4, 3]] mixed (by kernel_rfl) (by kernel_rfl) ?_
       refine RD.p T ?_
       refine RD.p T ?_
       refine RD.q rfl rfl (Gd.none rfl) (QV.v1 T) ?_
       refine RD.nv rfl rfl rfl (Gd.none rfl) ?_
       refine NV.buildSlice T rfl rfl rfl (Nat.le_of_ble_eq_true rfl) (by exact (rfl : _ = some [_, _])) ?_
       intro b28_2
       refine ⟨(Stab.cons rfl (Gd.none rfl) (QV.v1 T) (Stab.cons rfl (Gd.none rfl) (pev_sound T rfl) (Stab.cons rfl (Gd.none rfl) (pev_sound T rfl) Stab.nil))), ?_⟩
       refine RD.nv rfl rfl rfl (Gd.none rfl) ?_
       refine NV.apI1 (ki := .u8) T ?_
       intro a7_ c7_
       refine ⟨(Stab.cons rfl (Gd.none rfl) (QV.v1 T) (Stab.cons rfl (Gd.none rfl) (pev_sound T rfl) Stab.nil)), ?_⟩
       refine RD.nv rfl rfl rfl (Gd.none rfl) ?_
       refine NV.call rfl rfl rfl fun32 rfl rfl (rtwo x.tag hrt) ?_
       rintro _ _ ⟨bw, rfl, e⟩; obtain rfl := e.symm
       refine ⟨Stab.nil, ?_⟩
       refine RD.nv rfl rfl rfl (Gd.none rfl) ?_
       refine NV.apI1 (ki := .u8) (ys := two x.tag) T ?_ (hnews := rfl)
       intro a8_ c8_
       refine ⟨Stab.nil, ?_⟩
       refine RD.p T ?_
       refine RD.k rfl rfl ?_
       refine hK5 _ _ _ ?_
       refine SW.seq_k fun K7 hK7 => ?_
       refine SW.draw [(34, 0), (35, 1), (36, 2), (37, 3), (38, 4), (39, 5), (40, 6), (41, 7), (4, 8)] [[], [], [1], [2, 1], [0, 3, 2, 1], [], [5], [4, 0, 3, 2, 1, 6, 5], [7, 4, 0, 3, 2, 1, 6, 5]] mixed (by kernel_rfl) (by kernel_rfl) ?_
       refine RD.p T ?_
       refine RD.p T ?_
       refine RD.q rfl rfl (Gd.none rfl) (QV.v1 T) ?_
       refine RD.p T ?_
       refine RD.q rfl rfl (Gd.none rfl) (QV.v1 T) ?_
       refine RD.nv rfl rfl rfl (Gd.none rfl) ?_
       refine NV.call rfl rfl rfl fun32 rfl rfl (rtwo x.typ hry) ?_
       rintro _ _ ⟨bw, rfl, e⟩; obtain rfl := e.symm
       refine ⟨(Stab.cons rfl (Gd.none rfl) (QV.v1 T) (Stab.cons rfl (Gd.none rfl) (pev_sound T rfl) (Stab.cons rfl (Gd.none rfl) (pev_sound T rfl) Stab.nil))), ?_⟩
       refine RD.nv rfl rfl rfl (Gd.none rfl) ?_
       refine NV.apI1 (ki := .u8) (ys := two x.typ) T ?_ (hnews := rfl)
       intro a8_ c8_
       refine ⟨(Stab.cons rfl (Gd.none rfl) (QV.v1 T) (Stab.cons rfl (Gd.none rfl) (pev_sound T rfl) Stab.nil)), ?_⟩
       refine RD.nv rfl rfl rfl (Gd.none rfl) ?_
       refine NV.apI (ki := .u8) T ?_ (hR := fun hs => (by repeat first | exact hR | apply Rd.cons | apply Rd.app))
       intro a9_ c9_
       refine ⟨Stab.nil, ?_⟩
       refine RD.p T ?_
       refine RD.k rfl rfl ?_
       refine hK7 _ _ _ ?_
       refine SW.seq_k fun K8 hK8 => ?_
       refine SW.seq_k fun K9 hK9 => ?_
       refine SW.region _ _ _ _ ?_
       refine RL.p T ?_
       refine RL.p T ?_
       refine RL.p T ?_
       refine RL.nil _ _ _ _ ?_
       refine hK9 _ _ _ ?_
       refine SW.cs (fun hc2 => ?_) (fun hc2 => ?_)
       ·skip
        first
         | (exfalso; clear hK9 K9; clear hK8 K8; clear hK7 K7; clear hK6 K6; clear hK5 K5; clear hK4 K4; clear hK2 K2; clear hK1 K1; clear hK0 K0; first | omega | contradiction | (simp at *; done) | (simp_all; done))
         | (
          refine SW.seq_k fun K10 hK10 => ?_
          refine SW.region _ _ _ _ ?_
          refine RL.p T ?_
          refine RL.p T ?_
          refine RL.nil _ _ _ _ ?_
          refine hK10 _ _ _ ?_
          refine SW.ret ?_
          have hL : (((([] ++ [bi x.t 0, bi x.t 1, bi x.t 2, bi x.t 3, bi x.t 4, bi x.t 5]) ++ [bi x.t 6, bi x.t 7, bi x.t 8, bi x.t 9, bi x.t 10, bi x.t 11]) ++ two x.typ) ++ x.data) = ethB x := by unfold ethB ethH; rw [ht]; simp [two]; try rfl
          refine retQ.rr ((.row a9_ (0 + 6 + 6 + 2 + n) c9_ 5 1 ((((([] ++ [bi x.t 0, bi x.t 1, bi x.t 2, bi x.t 3, bi x.t 4, bi x.t 5]) ++ [bi x.t 6, bi x.t 7, bi x.t 8, bi x.t 9, bi x.t 10, bi x.t 11]) ++ two x.typ) ++ x.data).map (.int .u8)) :: H)) ?_
          clear hK10 K10 hK9 K9 hK8 K8 hK7 K7 hK6 K6 hK5 K5 hK4 K4 hK2 K2 hK1 K1 hK0 K0
          have hol : (ethB x).length = 0 + 6 + 6 + 2 + n := by rw [ethB_len, ethL, ht, hn]; simp <;> omega
          exact ⟨a9_, c9_, by rw [hol]; rfl, by rw [hol, hL]⟩
          )
       ·skip
        first
         | (exfalso; clear hK9 K9; clear hK8 K8; clear hK7 K7; clear hK6 K6; clear hK5 K5; clear hK4 K4; clear hK2 K2; clear hK1 K1; clear hK0 K0; first | omega | contradiction | (simp at *; done) | (simp_all; done))
         | (
          refine SW.skip ?_
          refine hK8 _ _ _ ?_
          refine SW.seq_k fun K11 hK11 => ?_
          refine SW.region _ _ _ _ ?_
          refine RL.p T ?_
          refine RL.p T ?_
          refine RL.p T ?_
          refine RL.nil _ _ _ _ ?_
          refine hK11 _ _ _ ?_
          refine SW.ret ?_
          have hL : (((([] ++ [bi x.t 0, bi x.t 1, bi x.t 2, bi x.t 3, bi x.t 4, bi x.t 5]) ++ [bi x.t 6, bi x.t 7, bi x.t 8, bi x.t 9, bi x.t 10, bi x.t 11]) ++ two x.typ) ++ x.data) = ethB x := by unfold ethB ethH; rw [ht]; simp [two]; try rfl
          refine retQ.rr ((.row a9_ (0 + 6 + 6 + 2 + n) c9_ 5 1 ((((([] ++ [bi x.t 0, bi x.t 1, bi x.t 2, bi x.t 3, bi x.t 4, bi x.t 5]) ++ [bi x.t 6, bi x.t 7, bi x.t 8, bi x.t 9, bi x.t 10, bi x.t 11]) ++ two x.typ) ++ x.data).map (.int .u8)) :: H)) ?_
          clear hK11 K11 hK9 K9 hK8 K8 hK7 K7 hK6 K6 hK5 K5 hK4 K4 hK2 K2 hK1 K1 hK0 K0
          have hol : (ethB x).length = 0 + 6 + 6 + 2 + n := by rw [ethB_len, ethL, ht, hn]; simp <;> omega
          exact ⟨a9_, c9_, by rw [hol]; rfl, by rw [hol, hL]⟩
          )
       )
    ·skip
     first
      | (exfalso; clear hK6 K6; clear hK5 K5; clear hK4 K4; clear hK2 K2; clear hK1 K1; clear hK0 K0; first | omega | contradiction | (simp at *; done) | (simp_all; done))
      | (
       refine SW.skip ?_
       refine hK5 _ _ _ ?_
       refine SW.seq_k fun K12 hK12 => ?_
       refine SW.draw [(34, 0), (35, 1), (36, 2), (37, 3), (38, 4), (39, 5), (40, 6), (41, 7), (4, 8)] [[], [], [1], [2, 1], [0, 3, 2, 1], [], [5], [4, 0, 3, 2, 1, 6, 5], [7, 4, 0, 3, 2, 1, 6, 5]] mixed (by kernel_rfl) (by kernel_rfl) ?_
       refine RD.p T ?_
       refine RD.p T ?_
       refine RD.q rfl rfl (Gd.none rfl) (QV.v1 T) ?_
       refine RD.p T ?_
       refine RD.q rfl rfl (Gd.none rfl) (QV.v1 T) ?_
       refine RD.nv rfl rfl rfl (Gd.none rfl) ?_
       refine NV.call rfl rfl rfl fun32 rfl rfl (rtwo x.typ hry) ?_
       rintro _ _ ⟨bw, rfl, e⟩; obtain rfl := e.symm
       refine ⟨(Stab.cons rfl (Gd.none rfl) (QV.v1 T) (Stab.cons rfl (Gd.none rfl) (pev_sound T rfl) (Stab.cons rfl (Gd.none rfl) (pev_sound T rfl) Stab.nil))), ?_⟩
       refine RD.nv rfl rfl rfl (Gd.none rfl) ?_
       refine NV.apI1 (ki := .u8) (ys := two x.typ) T ?_ (hnews := rfl)
       intro a8_ c8_
       refine ⟨(Stab.cons rfl (Gd.none rfl) (QV.v1 T) (Stab.cons rfl (Gd.none rfl) (pev_sound T rfl) Stab.nil)), ?_⟩
       refine RD.nv rfl rfl rfl (Gd.none rfl) ?_
       refine NV.apI (ki := .u8) T ?_ (hR := fun hs => (by repeat first | exact hR | apply Rd.cons | apply Rd.app))
       intro a9_ c9_
       refine ⟨Stab.nil, ?_⟩
       refine RD.p T ?_
       refine RD.k rfl rfl ?_
       refine hK12 _ _ _ ?_
       refine SW.seq_k fun K13 hK13 => ?_
       refine SW.seq_k fun K14 hK14 => ?_
       refine SW.region _ _ _ _ ?_
       refine RL.p T ?_
       refine RL.p T ?_
       refine RL.p T ?_
       refine RL.nil _ _ _ _ ?_
       refine hK14 _ _ _ ?_
       refine SW.cs (fun hc3 => ?_) (fun hc3 => ?_)
       ·skip
        first
         | (exfalso; clear hK14 K14; clear hK13 K13; clear hK12 K12; clear hK6 K6; clear hK5 K5; clear hK4 K4; clear hK2 K2; clear hK1 K1; clear hK0 K0; first | omega | contradiction | (simp at *; done) | (simp_all; done))
         | (
          refine SW.seq_k fun K15 hK15 => ?_
          refine SW.region _ _ _ _ ?_
          refine RL.p T ?_
          refine RL.p T ?_
          refine RL.nil _ _ _ _ ?_
          refine hK15 _ _ _ ?_
          refine SW.ret ?_
          have hL : (((([] ++ [bi x.t 0, bi x.t 1, bi x.t 2, bi x.t 3, bi x.t 4, bi x.t 5]) ++ [bi x.t 6, bi x.t 7, bi x.t 8, bi x.t 9, bi x.t 10, bi x.t 11]) ++ two x.typ) ++ x.data) = ethB x := by unfold ethB ethH; rw [ht]; simp [two]; try rfl
          refine retQ.rr ((.row a9_ (0 + 6 + 6 + 2 + n) c9_ 5 1 ((((([] ++ [bi x.t 0, bi x.t 1, bi x.t 2, bi x.t 3, bi x.t 4, bi x.t 5]) ++ [bi x.t 6, bi x.t 7, bi x.t 8, bi x.t 9, bi x.t 10, bi x.t 11]) ++ two x.typ) ++ x.data).map (.int .u8)) :: H)) ?_
          clear hK15 K15 hK14 K14 hK13 K13 hK12 K12 hK6 K6 hK5 K5 hK4 K4 hK2 K2 hK1 K1 hK0 K0
          have hol : (ethB x).length = 0 + 6 + 6 + 2 + n := by rw [ethB_len, ethL, ht, hn]; simp <;> omega
          exact ⟨a9_, c9_, by rw [hol]; rfl, by rw [hol, hL]⟩
          )
       ·skip
        first
         | (exfalso; clear hK14 K14; clear hK13 K13; clear hK12 K12; clear hK6 K6; clear hK5 K5; clear hK4 K4; clear hK2 K2; clear hK1 K1; clear hK0 K0; first | omega | contradiction | (simp at *; done) | (simp_all; done))
         | (
          refine SW.skip ?_
          refine hK13 _ _ _ ?_
          refine SW.seq_k fun K16 hK16 => ?_
          refine SW.region _ _ _ _ ?_
          refine RL.p T ?_
          refine RL.p T ?_
          refine RL.p T ?_
          refine RL.nil _ _ _ _ ?_
          refine hK16 _ _ _ ?_
          refine SW.ret ?_
          have hL : (((([] ++ [bi x.t 0, bi x.t 1, bi x.t 2, bi x.t 3, bi x.t 4, bi x.t 5]) ++ [bi x.t 6, bi x.t 7, bi x.t 8, bi x.t 9, bi x.t 10, bi x.t 11]) ++ two x.typ) ++ x.data) = ethB x := by unfold ethB ethH; rw [ht]; simp [two]; try rfl
          refine retQ.rr ((.row a9_ (0 + 6 + 6 + 2 + n) c9_ 5 1 ((((([] ++ [bi x.t 0, bi x.t 1, bi x.t 2, bi x.t 3, bi x.t 4, bi x.t 5]) ++ [bi x.t 6, bi x.t 7, bi x.t 8, bi x.t 9, bi x.t 10, bi x.t 11]) ++ two x.typ) ++ x.data).map (.int .u8)) :: H)) ?_
          clear hK16 K16 hK14 K14 hK13 K13 hK12 K12 hK6 K6 hK5 K5 hK4 K4 hK2 K2 hK1 K1 hK0 K0
          have hol : (ethB x).length = 0 + 6 + 6 + 2 + n := by rw [ethB_len, ethL, ht, hn]; simp <;> omega
          exact ⟨a9_, c9_, by rw [hol]; rfl, by rw [hol, hL]⟩
          )
       )
    )
theorem rputeth_fl {w0 : World} {H : List Chunk} (x : Eth) (sa : Option Addr) (n c : Nat) (hR : Rd w0 H sa n c 1 (x.data.map (.int .u8))) (hn : n = x.data.length) (hm : n ≤ 100000) (he : EOk x) (ht : x.tagged = false) (hl : 2048 < 14 + n + 0) (hz : x.tag = 0 ∧ x.typ ≠ 33024) : SC Try.prog w0 16 #[EA x sa n c] H (fun v H' => v = .tuple #[.slice none 0 0, .int .i64 2] ∧ H' = H) := by
 refine SC.enter Try.func16 rfl (Nat.le_of_ble_eq_true rfl) ?_
 refine SW.seq_k fun K0 hK0 => ?_
 have hrt := he.tag
 have hry := he.typ
 have hbt := bi_rng he.byte
 refine SW.region _ _ _ _ ?_
 refine RL.s ?_
 refine NV.box rfl (by exact (rfl : _ = [_, _, _, _, _, _, _, _, _, _, _, _, _, _, _, _])) ?_
 intro b1_0
 refine RL.p T ?_
 refine RL.p T ?_
 refine RL.nil _ _ _ _ ?_
 refine hK0 _ _ _ ?_
 refine SW.seq_k fun K1 hK1 => ?_
 refine SW.seq_k fun K2 hK2 => ?_
 refine SW.region _ _ _ _ ?_
 refine RL.p T ?_
 refine RL.lv1 T ?_
 refine RL.p T ?_
 refine RL.p T ?_
 refine RL.join (fr1 := ?_) 8 8 true [9, 10, 11, 12, 13, 14, 15, 16] (fun hs0 hj => ?_) ?_ ?_
 rotate_left
 ·have hs0j := hs0
  try simp only [decide_eq_true_eq, Bool.not_eq_true', decide_eq_false_iff_not, Bool.not_eq_false', Int.not_lt, Int.not_le, Int.toNat_natCast, Bool.and_eq_true, Bool.or_eq_true, Bool.and_eq_false_iff, Bool.or_eq_false_iff] at hs0
  refine RL.p T ?_
  refine RL.lv1 T ?_
  refine RL.p T ?_
  refine RL.p T ?_
  refine RL.join (fr1 := ?_) 3 12 false [13, 14, 15] (fun hs1 hj => ?_) ?_ ?_
  rotate_left
  ·have hs1j := hs1
   try simp only [decide_eq_true_eq, Bool.not_eq_true', decide_eq_false_iff_not, Bool.not_eq_false', Int.not_lt, Int.not_le, Int.toNat_natCast, Bool.and_eq_true, Bool.or_eq_true, Bool.and_eq_false_iff, Bool.or_eq_false_iff] at hs1
   refine RL.p T ?_
   refine RL.lv1 T ?_
   refine RL.p T ?_
   exact hj
  ·repeat first | exact Mx.refl | exact Mx.mix | refine Mx.put rfl ?_ | refine Mx.upd rfl ?_ | refine Mx.updl rfl ?_ | refine Mx.fin rfl ?_ | refine Mx.inner rfl ?_ | refine Mx.none ?_
  refine RL.or ?_
  exact hj
 ·repeat first | exact Mx.refl | exact Mx.mix | refine Mx.put rfl ?_ | refine Mx.upd rfl ?_ | refine Mx.updl rfl ?_ | refine Mx.fin rfl ?_ | refine Mx.inner rfl ?_ | refine Mx.none ?_
 refine RL.and ?_
 refine RL.nil _ _ _ _ ?_
 refine hK2 _ _ _ ?_
 refine SW.cs (fun hc0 => ?_) (fun hc0 => ?_)
 ·skip
  first
   | (exfalso; clear hK2 K2; clear hK1 K1; clear hK0 K0; first | omega | contradiction | (simp at *; done) | (simp_all; done))
   | (
    refine SW.seq_k fun K3 hK3 => ?_
    refine SW.region _ _ _ _ ?_
    refine RL.p T ?_
    refine RL.p T ?_
    refine RL.nil _ _ _ _ ?_
    refine hK3 _ _ _ ?_
    refine SW.ret ?_
    refine retQ.rr (H) ?_
    clear hK3 K3 hK2 K2 hK1 K1 hK0 K0
    exact ⟨rfl, rfl⟩
    )
 ·skip
  first
   | (exfalso; clear hK2 K2; clear hK1 K1; clear hK0 K0; first | omega | contradiction | (simp at *; done) | (simp_all; done))
   | (
    refine SW.skip ?_
    refine hK1 _ _ _ ?_
    refine SW.seq_k fun K4 hK4 => ?_
    refine SW.draw [(18, 0), (19, 1), (20, 2), (21, 3), (22, 4), (23, 5), (24, 6), (4, 7)] [[], [], [1], [0, 2, 1], [], [4], [3, 0, 2, 1, 5, 4], [6, 3, 0, 2, 1, 5, 4]] mixed (by kernel_rfl) (by kernel_rfl) ?_
    refine RD.p T ?_
    refine RD.q rfl rfl (Gd.none rfl) (QV.slA T rfl rfl rfl rfl) ?_
    refine RD.p T ?_
    refine RD.q rfl rfl (Gd.none rfl) (QV.slA T rfl rfl rfl rfl) ?_
    refine RD.nv rfl rfl rfl (Gd.none rfl) ?_
    refine NV.buildSlice T rfl rfl rfl (Nat.le_of_ble_eq_true rfl) (by exact (rfl : _ = some [])) ?_
    intro b18_1
    refine ⟨(Stab.cons rfl (Gd.none rfl) (QV.slA T rfl rfl rfl rfl) (Stab.cons rfl (Gd.none rfl) (pev_sound T rfl) (Stab.cons rfl (Gd.none rfl) (QV.slA T rfl rfl rfl rfl) (Stab.cons rfl (Gd.none rfl) (pev_sound T rfl) Stab.nil)))), ?_⟩
    refine RD.nv rfl rfl rfl (Gd.none rfl) ?_
    refine NV.apI (ki := .u8) (m := 6) (xs := []) (ys := [bi x.t 0, bi x.t 1, bi x.t 2, bi x.t 3, bi x.t 4, bi x.t 5]) T ?_ (hR := fun hs => Rd.var (n := 6) (c := 6) (by repeat first | exact At.head _ _ | apply At.tail) rfl rfl (by omega))
    intro a0_ c0_
    refine ⟨(Stab.cons rfl (Gd.none rfl) (QV.slA T rfl rfl rfl rfl) (Stab.cons rfl (Gd.none rfl) (pev_sound T rfl) Stab.nil)), ?_⟩
    refine RD.nv rfl rfl rfl (Gd.none rfl) ?_
    refine NV.apI (ki := .u8) (m := 6) (ys := [bi x.t 6, bi x.t 7, bi x.t 8, bi x.t 9, bi x.t 10, bi x.t 11]) T ?_ (hR := fun hs => Rd.var (n := 6) (c := 6) (by repeat first | exact At.head _ _ | apply At.tail) rfl rfl (by omega))
    intro a6_ c6_
    refine ⟨Stab.nil, ?_⟩
    refine RD.p T ?_
    refine RD.k rfl rfl ?_
    refine hK4 _ _ _ ?_
    refine SW.seq_k fun K5 hK5 => ?_
    refine SW.seq_k fun K6 hK6 => ?_
    refine SW.region _ _ _ _ ?_
    refine RL.p T ?_
    refine RL.lv1 T ?_
    refine RL.nil _ _ _ _ ?_
    refine hK6 _ _ _ ?_
    refine SW.cs (fun hc1 => ?_) (fun hc1 => ?_)
    ·skip
     first
      | (exfalso; clear hK6 K6; clear hK5 K5; clear hK4 K4; clear hK2 K2; clear hK1 K1; clear hK0 K0; first | omega | contradiction | (simp at *; done) | (simp_all; done))
      | (
       refine SW.draw [(27, 0), (28, 1), (29, 2), (30, 3), (31, 4), (32, 5), (33, 6), (4, 7)] [[], [], [0, 1], [], [3], [4, 3, 2, 0, 1], [2, 0, 1, 5, 4, 3], [6, 2, 0, 1, 5, 4, 3]] mixed (by kernel_rfl) (by kernel_rfl) ?_
       refine RD.p T ?_
       refine RD.p T ?_
       refine RD.q rfl rfl (Gd.none rfl) (QV.v1 T) ?_
       refine RD.nv rfl rfl rfl (Gd.none rfl) ?_
       refine NV.buildSlice T rfl rfl rfl (Nat.le_of_ble_eq_true rfl) (by exact (rfl : _ = some [_, _])) ?_
       intro b28_2
       refine ⟨(Stab.cons rfl (Gd.none rfl) (QV.v1 T) (Stab.cons rfl (Gd.none rfl) (pev_sound T rfl) (Stab.cons rfl (Gd.none rfl) (pev_sound T rfl) Stab.nil))), ?_⟩
       refine RD.nv rfl rfl rfl (Gd.none rfl) ?_
       refine NV.apI1 (ki := .u8) T ?_
       intro a7_ c7_
       refine ⟨(Stab.cons rfl (Gd.none rfl) (QV.v1 T) (Stab.cons rfl (Gd.none rfl) (pev_sound T rfl) Stab.nil)), ?_⟩
       refine RD.nv rfl rfl rfl (Gd.none rfl) ?_
       refine NV.call rfl rfl rfl fun32 rfl rfl (rtwo x.tag hrt) ?_
       rintro _ _ ⟨bw, rfl, e⟩; obtain rfl := e.symm
       refine ⟨Stab.nil, ?_⟩
       refine RD.nv rfl rfl rfl (Gd.none rfl) ?_
       refine NV.apI1 (ki := .u8) (ys := two x.tag) T ?_ (hnews := rfl)
       intro a8_ c8_
       refine ⟨Stab.nil, ?_⟩
       refine RD.p T ?_
       refine RD.k rfl rfl ?_
       refine hK5 _ _ _ ?_
       refine SW.seq_k fun K7 hK7 => ?_
       refine SW.draw [(34, 0), (35, 1), (36, 2), (37, 3), (38, 4), (39, 5), (40, 6), (41, 7), (4, 8)] [[], [], [1], [2, 1], [0, 3, 2, 1], [], [5], [4, 0, 3, 2, 1, 6, 5], [7, 4, 0, 3, 2, 1, 6, 5]] mixed (by kernel_rfl) (by kernel_rfl) ?_
       refine RD.p T ?_
       refine RD.p T ?_
       refine RD.q rfl rfl (Gd.none rfl) (QV.v1 T) ?_
       refine RD.p T ?_
       refine RD.q rfl rfl (Gd.none rfl) (QV.v1 T) ?_
       refine RD.nv rfl rfl rfl (Gd.none rfl) ?_
       refine NV.call rfl rfl rfl fun32 rfl rfl (rtwo x.typ hry) ?_
       rintro _ _ ⟨bw, rfl, e⟩; obtain rfl := e.symm
       refine ⟨(Stab.cons rfl (Gd.none rfl) (QV.v1 T) (Stab.cons rfl (Gd.none rfl) (pev_sound T rfl) (Stab.cons rfl (Gd.none rfl) (pev_sound T rfl) Stab.nil))), ?_⟩
       refine RD.nv rfl rfl rfl (Gd.none rfl) ?_
       refine NV.apI1 (ki := .u8) (ys := two x.typ) T ?_ (hnews := rfl)
       intro a8_ c8_
       refine ⟨(Stab.cons rfl (Gd.none rfl) (QV.v1 T) (Stab.cons rfl (Gd.none rfl) (pev_sound T rfl) Stab.nil)), ?_⟩
       refine RD.nv rfl rfl rfl (Gd.none rfl) ?_
       refine NV.apI (ki := .u8) T ?_ (hR := fun hs => (by repeat first | exact hR | apply Rd.cons | apply Rd.app))
       intro a9_ c9_
       refine ⟨Stab.nil, ?_⟩
       refine RD.p T ?_
       refine RD.k rfl rfl ?_
       refine hK7 _ _ _ ?_
       refine SW.seq_k fun K8 hK8 => ?_
       refine SW.seq_k fun K9 hK9 => ?_
       refine SW.region _ _ _ _ ?_
       refine RL.p T ?_
       refine RL.p T ?_
       refine RL.p T ?_
       refine RL.nil _ _ _ _ ?_
       refine hK9 _ _ _ ?_
       refine SW.cs (fun hc2 => ?_) (fun hc2 => ?_)
       ·skip
        first
         | (exfalso; clear hK9 K9; clear hK8 K8; clear hK7 K7; clear hK6 K6; clear hK5 K5; clear hK4 K4; clear hK2 K2; clear hK1 K1; clear hK0 K0; first | omega | contradiction | (simp at *; done) | (simp_all; done))
         | (
          refine SW.seq_k fun K10 hK10 => ?_
          refine SW.region _ _ _ _ ?_
          refine RL.p T ?_
          refine RL.p T ?_
          refine RL.nil _ _ _ _ ?_
          refine hK10 _ _ _ ?_
          refine SW.ret ?_
          refine retQ.rr (H) ?_
          clear hK10 K10 hK9 K9 hK8 K8 hK7 K7 hK6 K6 hK5 K5 hK4 K4 hK2 K2 hK1 K1 hK0 K0
          exact ⟨rfl, rfl⟩
          )
       ·skip
        first
         | (exfalso; clear hK9 K9; clear hK8 K8; clear hK7 K7; clear hK6 K6; clear hK5 K5; clear hK4 K4; clear hK2 K2; clear hK1 K1; clear hK0 K0; first | omega | contradiction | (simp at *; done) | (simp_all; done))
         | (
          refine SW.skip ?_
          refine hK8 _ _ _ ?_
          refine SW.seq_k fun K11 hK11 => ?_
          refine SW.region _ _ _ _ ?_
          refine RL.p T ?_
          refine RL.p T ?_
          refine RL.p T ?_
          refine RL.nil _ _ _ _ ?_
          refine hK11 _ _ _ ?_
          refine SW.ret ?_
          refine retQ.rr (H) ?_
          clear hK11 K11 hK9 K9 hK8 K8 hK7 K7 hK6 K6 hK5 K5 hK4 K4 hK2 K2 hK1 K1 hK0 K0
          exact ⟨rfl, rfl⟩
          )
       )
    ·skip
     first
      | (exfalso; clear hK6 K6; clear hK5 K5; clear hK4 K4; clear hK2 K2; clear hK1 K1; clear hK0 K0; first | omega | contradiction | (simp at *; done) | (simp_all; done))
      | (
       refine SW.skip ?_
       refine hK5 _ _ _ ?_
       refine SW.seq_k fun K12 hK12 => ?_
       refine SW.draw [(34, 0), (35, 1), (36, 2), (37, 3), (38, 4), (39, 5), (40, 6), (41, 7), (4, 8)] [[], [], [1], [2, 1], [0, 3, 2, 1], [], [5], [4, 0, 3, 2, 1, 6, 5], [7, 4, 0, 3, 2, 1, 6, 5]] mixed (by kernel_rfl) (by kernel_rfl) ?_
       refine RD.p T ?_
       refine RD.p T ?_
       refine RD.q rfl rfl (Gd.none rfl) (QV.v1 T) ?_
       refine RD.p T ?_
       refine RD.q rfl rfl (Gd.none rfl) (QV.v1 T) ?_
       refine RD.nv rfl rfl rfl (Gd.none rfl) ?_
       refine NV.call rfl rfl rfl fun32 rfl rfl (rtwo x.typ hry) ?_
       rintro _ _ ⟨bw, rfl, e⟩; obtain rfl := e.symm
       refine ⟨(Stab.cons rfl (Gd.none rfl) (QV.v1 T) (Stab.cons rfl (Gd.none rfl) (pev_sound T rfl) (Stab.cons rfl (Gd.none rfl) (pev_sound T rfl) Stab.nil))), ?_⟩
       refine RD.nv rfl rfl rfl (Gd.none rfl) ?_
       refine NV.apI1 (ki := .u8) (ys := two x.typ) T ?_ (hnews := rfl)
       intro a8_ c8_
       refine ⟨(Stab.cons rfl (Gd.none rfl) (QV.v1 T) (Stab.cons rfl (Gd.none rfl) (pev_sound T rfl) Stab.nil)), ?_⟩
       refine RD.nv rfl rfl rfl (Gd.none rfl) ?_
       refine NV.apI (ki := .u8) T ?_ (hR := fun hs => (by repeat first | exact hR | apply Rd.cons | apply Rd.app))
       intro a9_ c9_
       refine ⟨Stab.nil, ?_⟩
       refine RD.p T ?_
       refine RD.k rfl rfl ?_
       refine hK12 _ _ _ ?_
       refine SW.seq_k fun K13 hK13 => ?_
       refine SW.seq_k fun K14 hK14 => ?_
       refine SW.region _ _ _ _ ?_
       refine RL.p T ?_
       refine RL.p T ?_
       refine RL.p T ?_
       refine RL.nil _ _ _ _ ?_
       refine hK14 _ _ _ ?_
       refine SW.cs (fun hc3 => ?_) (fun hc3 => ?_)
       ·skip
        first
         | (exfalso; clear hK14 K14; clear hK13 K13; clear hK12 K12; clear hK6 K6; clear hK5 K5; clear hK4 K4; clear hK2 K2; clear hK1 K1; clear hK0 K0; first | omega | contradiction | (simp at *; done) | (simp_all; done))
         | (
          refine SW.seq_k fun K15 hK15 => ?_
          refine SW.region _ _ _ _ ?_
          refine RL.p T ?_
          refine RL.p T ?_
          refine RL.nil _ _ _ _ ?_
          refine hK15 _ _ _ ?_
          refine SW.ret ?_
          refine retQ.rr (H) ?_
          clear hK15 K15 hK14 K14 hK13 K13 hK12 K12 hK6 K6 hK5 K5 hK4 K4 hK2 K2 hK1 K1 hK0 K0
          exact ⟨rfl, rfl⟩
          )
       ·skip
        first
         | (exfalso; clear hK14 K14; clear hK13 K13; clear hK12 K12; clear hK6 K6; clear hK5 K5; clear hK4 K4; clear hK2 K2; clear hK1 K1; clear hK0 K0; first | omega | contradiction | (simp at *; done) | (simp_all; done))
         | (
          refine SW.skip ?_
          refine hK13 _ _ _ ?_
          refine SW.seq_k fun K16 hK16 => ?_
          refine SW.region _ _ _ _ ?_
          refine RL.p T ?_
          refine RL.p T ?_
          refine RL.p T ?_
          refine RL.nil _ _ _ _ ?_
          refine hK16 _ _ _ ?_
          refine SW.ret ?_
          refine retQ.rr (H) ?_
          clear hK16 K16 hK14 K14 hK13 K13 hK12 K12 hK6 K6 hK5 K5 hK4 K4 hK2 K2 hK1 K1 hK0 K0
          exact ⟨rfl, rfl⟩
          )
       )
    )
theorem rputeth_bad {w0 : World} {H : List Chunk} (x : Eth) (sa : Option Addr) (n c : Nat) (hR : Rd w0 H sa n c 1 (x.data.map (.int .u8))) (hn : n = x.data.length) (hm : n ≤ 140737488351) (he : EOk x) (hb : x.tagged = false ∧ (x.tag ≠ 0 ∨ x.typ = 33024)) : SC Try.prog w0 16 #[EA x sa n c] H (fun v H' => v = .tuple #[.slice none 0 0, .int .i64 2] ∧ H' = H) := by
 refine SC.enter Try.func16 rfl (Nat.le_of_ble_eq_true rfl) ?_
 refine SW.seq_k fun K0 hK0 => ?_
 refine SW.region _ _ _ _ ?_
 refine RL.s ?_
 refine NV.box rfl (by exact (rfl : _ = [_, _, _, _, _, _, _, _, _, _, _, _, _, _, _, _])) ?_
 intro b1_0
 refine RL.p T ?_
 refine RL.p T ?_
 refine RL.nil _ _ _ _ ?_
 refine hK0 _ _ _ ?_
 refine SW.seq_k fun K1 hK1 => ?_
 refine SW.seq_k fun K2 hK2 => ?_
 refine SW.region _ _ _ _ ?_
 refine RL.p T ?_
 refine RL.lv1 T ?_
 refine RL.p T ?_
 refine RL.p T ?_
 refine RL.join (fr1 := ?_) 8 8 true [9, 10, 11, 12, 13, 14, 15, 16] (fun hs0 hj => ?_) ?_ ?_
 rotate_left
 ·have hs0j := hs0
  try simp only [decide_eq_true_eq, Bool.not_eq_true', decide_eq_false_iff_not, Bool.not_eq_false', Int.not_lt, Int.not_le, Int.toNat_natCast, Bool.and_eq_true, Bool.or_eq_true, Bool.and_eq_false_iff, Bool.or_eq_false_iff] at hs0
  refine RL.p T ?_
  refine RL.lv1 T ?_
  refine RL.p T ?_
  refine RL.p T ?_
  refine RL.join (fr1 := ?_) 3 12 false [13, 14, 15] (fun hs1 hj => ?_) ?_ ?_
  rotate_left
  ·have hs1j := hs1
   try simp only [decide_eq_true_eq, Bool.not_eq_true', decide_eq_false_iff_not, Bool.not_eq_false', Int.not_lt, Int.not_le, Int.toNat_natCast, Bool.and_eq_true, Bool.or_eq_true, Bool.and_eq_false_iff, Bool.or_eq_false_iff] at hs1
   refine RL.p T ?_
   refine RL.lv1 T ?_
   refine RL.p T ?_
   exact hj
  ·repeat first | exact Mx.refl | exact Mx.mix | refine Mx.put rfl ?_ | refine Mx.upd rfl ?_ | refine Mx.updl rfl ?_ | refine Mx.fin rfl ?_ | refine Mx.inner rfl ?_ | refine Mx.none ?_
  refine RL.or ?_
  exact hj
 ·repeat first | exact Mx.refl | exact Mx.mix | refine Mx.put rfl ?_ | refine Mx.upd rfl ?_ | refine Mx.updl rfl ?_ | refine Mx.fin rfl ?_ | refine Mx.inner rfl ?_ | refine Mx.none ?_
 refine RL.and ?_
 refine RL.nil _ _ _ _ ?_
 refine hK2 _ _ _ ?_
 refine SW.cs (fun hc0 => ?_) (fun hc0 => ?_)
 ·skip
  first
   | (exfalso; clear hK2 K2; clear hK1 K1; clear hK0 K0; first | omega | contradiction | (simp at *; done) | (simp_all; done) | (simp_all; omega))
   | (
    refine SW.seq_k fun K3 hK3 => ?_
    refine SW.region _ _ _ _ ?_
    refine RL.p T ?_
    refine RL.p T ?_
    refine RL.nil _ _ _ _ ?_
    refine hK3 _ _ _ ?_
    refine SW.ret ?_
    refine retQ.rr (H) ?_
    clear hK3 K3 hK2 K2 hK1 K1 hK0 K0
    exact ⟨rfl, rfl⟩
    )
 ·skip
  first
   | (exfalso; clear hK2 K2; clear hK1 K1; clear hK0 K0; first | omega | contradiction | (simp at *; done) | (simp_all; done) | (simp_all; omega))
   | (
    refine SW.skip ?_
    refine hK1 _ _ _ ?_
    refine SW.seq_k fun K4 hK4 => ?_
    refine SW.draw [(18, 0), (19, 1), (20, 2), (21, 3), (22, 4), (23, 5), (24, 6), (4, 7)] [[], [], [1], [0, 2, 1], [], [4], [3, 0, 2, 1, 5, 4], [6, 3, 0, 2, 1, 5, 4]] mixed (by kernel_rfl) (by kernel_rfl) ?_
    refine RD.p T ?_
    refine RD.p T ?_
    refine RD.p T ?_
    refine RD.p T ?_
    refine RD.nv rfl rfl rfl (Gd.none rfl) ?_
    refine NV.buildSlice T rfl rfl rfl (Nat.le_of_ble_eq_true rfl) (by exact (rfl : _ = some [])) ?_
    intro b18_1
    refine ⟨(Stab.cons rfl (Gd.none rfl) (pev_sound T rfl) (Stab.cons rfl (Gd.none rfl) (pev_sound T rfl) (Stab.cons rfl (Gd.none rfl) (pev_sound T rfl) (Stab.cons rfl (Gd.none rfl) (pev_sound T rfl) Stab.nil)))), ?_⟩
    refine RD.nv rfl rfl rfl (Gd.none rfl) ?_
    first
      | refine NV.append1 T rfl rfl rfl rfl rfl rfl rfl rfl rfl rfl (by repeat first | exact At.head _ _ | assumption | exact At.put (by assumption) _ | apply At.tail | apply At.app) (ones rfl) (by first | omega | (unfold maxLen; omega)) (by first | omega | (show (_ + _) * 8 ≤ 140737488355328; omega)) ?_
      | refine NV.append T rfl rfl rfl rfl rfl rfl rfl rfl rfl rfl (by repeat first | exact At.head _ _ | assumption | exact At.put (by assumption) _ | apply At.tail | apply At.app) (by assumption) (ones rfl) (by first | omega | (unfold maxLen; omega)) (by first | omega | (show (_ + _) * 8 ≤ 140737488355328; omega)) ?_
    intro a0_ c0_
    refine ⟨(Stab.cons rfl (Gd.none rfl) (pev_sound T rfl) (Stab.cons rfl (Gd.none rfl) (pev_sound T rfl) Stab.nil)), ?_⟩
    refine RD.nv rfl rfl rfl (Gd.none rfl) ?_
    first
      | refine NV.append1 T rfl rfl rfl rfl rfl rfl rfl rfl rfl rfl (by repeat first | exact At.head _ _ | assumption | exact At.put (by assumption) _ | apply At.tail | apply At.app) (ones rfl) (by first | omega | (unfold maxLen; omega)) (by first | omega | (show (_ + _) * 8 ≤ 140737488355328; omega)) ?_
      | refine NV.append T rfl rfl rfl rfl rfl rfl rfl rfl rfl rfl (by repeat first | exact At.head _ _ | assumption | exact At.put (by assumption) _ | apply At.tail | apply At.app) (by assumption) (ones rfl) (by first | omega | (unfold maxLen; omega)) (by first | omega | (show (_ + _) * 8 ≤ 140737488355328; omega)) ?_
    intro a1_ c1_
    refine ⟨Stab.nil, ?_⟩
    refine RD.p T ?_
    refine RD.k rfl rfl ?_
    refine hK4 _ _ _ ?_
    refine SW.seq_k fun K5 hK5 => ?_
    refine SW.seq_k fun K6 hK6 => ?_
    refine SW.region _ _ _ _ ?_
    refine RL.p T ?_
    refine RL.lv1 T ?_
    refine RL.nil _ _ _ _ ?_
    refine hK6 _ _ _ ?_
    refine SW.cs (fun hc1 => ?_) (fun hc1 => ?_)
    ·skip
     exfalso; clear hK6 K6; clear hK5 K5; clear hK4 K4; clear hK2 K2; clear hK1 K1; clear hK0 K0; first | omega | contradiction | (simp at *; done) | (simp_all; done) | (simp_all; omega)
    ·skip
     exfalso; clear hK6 K6; clear hK5 K5; clear hK4 K4; clear hK2 K2; clear hK1 K1; clear hK0 K0; first | omega | contradiction | (simp at *; done) | (simp_all; done) | (simp_all; omega)
    )
theorem rputeth {w0 : World} {H : List Chunk} (x : Eth) (sa : Option Addr) (n c : Nat) (hR : Rd w0 H sa n c 1 (x.data.map (.int .u8))) (hn : n = x.data.length) (hm : n ≤ 100000) (he : EOk x) : SC Try.prog w0 16 #[EA x sa n c] H (fun v H' => ∃ a c, v = .tuple #[.slice a (putE x).1.length c, .int .i64 (putE x).2] ∧ H' = .row a (putE x).1.length c 5 1 ((putE x).1.map (.int .u8)) :: H) := by
  have hbad : ∀ h : (x.tagged = false ∧ (x.tag ≠ 0 ∨ x.typ = 33024)) ∨ 2048 < ethL x, (∀ {H : List Chunk}, Rd w0 H sa n c 1 (x.data.map (.int .u8)) → SC Try.prog w0 16 #[EA x sa n c] H (fun v H' => v = .tuple #[.slice none 0 0, .int .i64 2] ∧ H' = H)) → SC Try.prog w0 16 #[EA x sa n c] H (fun v H' => ∃ a c, v = .tuple #[.slice a (putE x).1.length c, .int .i64 (putE x).2] ∧ H' = .row a (putE x).1.length c 5 1 ((putE x).1.map (.int .u8)) :: H) := by
    intro h hc
    rw [putE_bad h]
    refine SC.nilrow 5 1 (SC.mono (hc hR.cons) ?_)
    rintro _ _ ⟨rfl, rfl⟩; exact ⟨none, 0, rfl, rfl⟩
  by_cases h1 : x.tagged = false ∧ (x.tag ≠ 0 ∨ x.typ = 33024)
  · exact hbad (.inl h1) fun hR' => rputeth_bad x sa n c hR' hn (by omega) he h1
  · have hlen : ethL x = 14 + n + (if x.tagged = true then 4 else 0) := by rw [ethL, hn]
    by_cases h2 : 2048 < ethL x
    · refine hbad (.inr h2) fun hR' => ?_
      rw [hlen] at h2
      cases ht : x.tagged with
      | true => rw [ht] at h2; exact rputeth_tl x sa n c hR' hn hm he ht (by simpa using h2)
      | false => rw [ht] at h2 h1; exact rputeth_fl x sa n c hR' hn hm he ht (by simpa using h2) (by simp at h1; omega)
    · rw [putE_ok (fun h => h.elim h1 h2)]
      rw [hlen] at h2
      cases ht : x.tagged with
      | true => rw [ht] at h2; exact rputeth_t x sa n c hR hn hm he ht (by simp at h2; omega)
      | false => rw [ht] at h2 h1; exact rputeth_f x sa n c hR hn hm he ht (by simp at h2; omega) (by simp at h1; omega)
end Go.Proofs.Ytecgicpimgghaaa.M
