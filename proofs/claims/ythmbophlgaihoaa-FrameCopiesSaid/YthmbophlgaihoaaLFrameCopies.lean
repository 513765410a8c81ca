import Derived.Test.YthmbophlgaihoaaProg
import Derived.Test.YthmbophlgaihoaaFC5
import Derived.Test.YthmbophlgaihoaaP5b
set_option linter.unusedVariables false
set_option linter.unusedSimpArgs false
namespace Go.Proofs.Ythmbophlgaihoaa.M
open Go Go.Sep Go.Proofs
set_option maxRecDepth 10000
set_option maxHeartbeats 2000000
theorem fcopies {w0 : World} {H : List Chunk} (f : Frm) (sa : Option Addr) (c : Nat) (hR : ∀ H, Rd w0 H sa f.data.length c 1 (f.data.map (.int .u8))) (hm : f.data.length ≤ 140737488351232) (hf : FrOk f) (wh : Int) (w0' : 0 ≤ wh) (w1' : wh ≤ 255) : SC Try.prog w0 8 #[FA f sa f.data.length c, .int .u8 wh] H (fun v H' => v = .bool true ∧ H' = H) := by
 refine SC.enter Try.func8 rfl (Nat.le_of_ble_eq_true rfl) ?_
 refine SW.seq_k fun K0 hK0 => ?_
 have hsr := sameF_refl f
 refine SW.region _ _ _ _ ?_
 refine RL.s ?_
 refine NV.box rfl (by exact (rfl : _ = [_, _, _, _, _, _, _, _, _, _, _])) ?_
 intro b2_0
 refine RL.p T ?_
 refine RL.nil _ _ _ _ ?_
 refine hK0 _ _ _ ?_
 refine SW.seq_k fun K1 hK1 => ?_
 refine SW.seq_k fun K2 hK2 => ?_
 refine SW.region _ _ _ _ ?_
 refine RL.c fun9 (fun hs => alive) ?_
 rintro _ _ ⟨rfl, e⟩; obtain rfl := e.symm
 refine RL.p T ?_
 refine RL.nil _ _ _ _ ?_
 refine hK2 _ _ _ ?_
 refine SW.cs (fun hc0 => ?_) (fun hc0 => ?_)
 ·skip
  first
   | (exfalso; first | omega | contradiction | (simp at hc0; done))
   | (
    refine SW.seq_k fun K3 hK3 => ?_
    refine SW.region _ _ _ _ ?_
    refine RL.p T ?_
    refine RL.nil _ _ _ _ ?_
    refine hK3 _ _ _ ?_
    refine SW.ret ?_
    refine retQ.rr (H) ?_
    clear hK3 K3 hK2 K2 hK1 K1 hK0 K0
    first
      | exact ⟨rfl, rfl⟩
      | (exfalso; grind)
      | (refine ⟨boolE ?_, rfl⟩
         refine (congrArg (fun b => !b) (sameF_ne ?_)).trans rfl
         intro e
         first
           | (exact absurd (congrArg Frm.kind e) (wrap_ne (k := .i64) hf.kind.1 hf.kind.2))
           | (exact absurd (congrArg Frm.id e) (wrap_ne (k := .u32) hf.id.1 hf.id.2))
           | (exact absurd (congrArg Frm.sdt e) (wrap_ne (k := .u8) hf.sdt.1 hf.sdt.2))
           | (exact absurd (congrArg Frm.vcid e) (wrap_ne (k := .u8) hf.vcid.1 hf.vcid.2))
           | (exact absurd (congrArg Frm.af e) (wrap_ne (k := .u32) hf.af.1 hf.af.2))
           | (have h := congrArg Frm.ext e; revert h; dsimp only; cases f.ext <;> intro h <;> cases h; done)
           | (have h := congrArg Frm.rtr e; revert h; dsimp only; cases f.rtr <;> intro h <;> cases h; done)
           | (have h := congrArg Frm.brs e; revert h; dsimp only; cases f.brs <;> intro h <;> cases h; done)
           | (have h := congrArg Frm.esi e; revert h; dsimp only; cases f.esi <;> intro h <;> cases h; done)
           | (have h := congrArg Frm.sec e; revert h; dsimp only; cases f.sec <;> intro h <;> cases h; done)
           | (have h := congrArg (fun g => g.data.length) e; simp at h; done))
    )
 ·skip
  first
   | (exfalso; first | omega | contradiction | (simp at hc0; done))
   | (
    refine SW.skip ?_
    refine hK1 _ _ _ ?_
    refine SW.seq_k fun K4 hK4 => ?_
    refine SW.seq_k fun K5 hK5 => ?_
    refine SW.region _ _ _ _ ?_
    refine RL.p T ?_
    refine RL.lv1 T ?_
    refine RL.p T ?_
    refine RL.p T ?_
    refine RL.nil _ _ _ _ ?_
    refine hK5 _ _ _ ?_
    refine SW.cs (fun hc1 => ?_) (fun hc1 => ?_)
    ·skip
     first
      | (exfalso; first | omega | contradiction | (simp at hc0; done))
      | (
       refine SW.seq_k fun K6 hK6 => ?_
       refine SW.region _ _ _ _ ?_
       refine RL.p T ?_
       refine RL.nil _ _ _ _ ?_
       refine hK6 _ _ _ ?_
       refine SW.ret ?_
       refine retQ.rr (H) ?_
       clear hK6 K6 hK5 K5 hK4 K4 hK2 K2 hK1 K1 hK0 K0
       first
         | exact ⟨rfl, rfl⟩
         | (exfalso; grind)
         | (refine ⟨boolE ?_, rfl⟩
            refine (congrArg (fun b => !b) (sameF_ne ?_)).trans rfl
            intro e
            first
              | (exact absurd (congrArg Frm.kind e) (wrap_ne (k := .i64) hf.kind.1 hf.kind.2))
              | (exact absurd (congrArg Frm.id e) (wrap_ne (k := .u32) hf.id.1 hf.id.2))
              | (exact absurd (congrArg Frm.sdt e) (wrap_ne (k := .u8) hf.sdt.1 hf.sdt.2))
              | (exact absurd (congrArg Frm.vcid e) (wrap_ne (k := .u8) hf.vcid.1 hf.vcid.2))
              | (exact absurd (congrArg Frm.af e) (wrap_ne (k := .u32) hf.af.1 hf.af.2))
              | (have h := congrArg Frm.ext e; revert h; dsimp only; cases f.ext <;> intro h <;> cases h; done)
              | (have h := congrArg Frm.rtr e; revert h; dsimp only; cases f.rtr <;> intro h <;> cases h; done)
              | (have h := congrArg Frm.brs e; revert h; dsimp only; cases f.brs <;> intro h <;> cases h; done)
              | (have h := congrArg Frm.esi e; revert h; dsimp only; cases f.esi <;> intro h <;> cases h; done)
              | (have h := congrArg Frm.sec e; revert h; dsimp only; cases f.sec <;> intro h <;> cases h; done)
              | (have h := congrArg (fun g => g.data.length) e; simp at h; done))
       )
    ·skip
     first
      | (exfalso; first | omega | contradiction | (simp at hc0; done))
      | (
       refine SW.skip ?_
       refine hK4 _ _ _ ?_
       refine SW.seq_k fun K7 hK7 => ?_
       refine SW.region _ _ _ _ ?_
       refine RL.lvN T rfl rfl rfl rfl rfl (by repeat first | exact At.head _ _ | assumption | exact At.put (by assumption) _ | apply At.tail | apply At.app) (by exact (rfl : _ = [_, _, _, _, _, _, _, _, _, _, _])) ?_
       refine RL.c fun20 (fun hs => fcopy f sa f.data.length c (hR _) rfl hm hf) ?_
       rintro _ _ ⟨a1, c1, rfl, e⟩; obtain rfl := e.symm
       refine RL.s ?_
       refine NV.alloc T rfl rfl rfl (by exact (rfl : _ = [_, _, _, _, _, _, _, _, _, _, _])) ?_
       intro b5_1
       refine RL.s ?_
       first
         | refine NV.store_var1 T rfl rfl rfl rfl (by conv => lhs; whnf) rfl (by repeat first | exact At.head _ _ | assumption | exact At.put (by assumption) _ | apply At.tail | apply At.app) rfl (by exact (rfl : _ = [_, _, _, _, _, _, _, _, _, _, _])) ?_
         | refine NV.store_var T rfl rfl rfl (by exact (rfl : _ = [_, _, _, _, _, _, _, _, _, _, _])) rfl rfl (by repeat first | exact At.head _ _ | assumption | exact At.put (by assumption) _ | apply At.tail | apply At.app) (Nat.le_of_ble_eq_true rfl) (by exact (rfl : _ = [_, _, _, _, _, _, _, _, _, _, _])) ?_
         | refine NV.store_elem T rfl rfl rfl rfl (by conv => lhs; whnf) rfl (by repeat first | exact At.head _ _ | assumption | exact At.put (by assumption) _ | apply At.tail | apply At.app) (by omega) ?_
       refine RL.nil _ _ _ _ ?_
       refine hK7 _ _ _ ?_
       refine SW.seq_k fun K8 hK8 => ?_
       refine SW.seq_k fun K9 hK9 => ?_
       refine SW.drawQ [(16, 0), (17, 1), (18, 2), (19, 3), (20, 4), (21, 5), (22, 6), (23, 7), (24, 8), (25, 9), (26, 10), (27, 11), (28, 12), (29, 13), (30, 14), (31, 15), (32, 16)] [[], [], [0, 1], [2, 0, 1], [3, 2, 0, 1], [4, 3, 2, 0, 1], [4, 3, 2, 0, 1], [5, 4, 3, 2, 0, 1, 6], [7, 5, 4, 3, 2, 0, 1, 6], [4, 3, 2, 0, 1, 8, 7, 5, 6], [9, 4, 3, 2, 0, 1, 8, 7, 5, 6], [10, 9, 4, 3, 2, 0, 1, 8, 7, 5, 6], [11, 10, 9, 4, 3, 2, 0, 1, 8, 7, 5, 6], [10, 9, 4, 3, 2, 0, 1, 8, 7, 5, 6], [13, 10, 9, 4, 3, 2, 0, 1, 8, 7, 5, 6, 12, 11], [12, 11, 10, 9, 4, 3, 2, 0, 1, 8, 7, 5, 6, 14, 13], [10, 9, 4, 3, 2, 0, 1, 8, 7, 5, 6, 15, 12, 11, 14, 13]] mixed (by kernel_rfl) (by kernel_rfl) ?_
       refine QL.lvN T rfl rfl rfl rfl rfl (by repeat first | exact At.head _ _ | assumption | exact At.put (by assumption) _ | apply At.tail | apply At.app) (by exact (rfl : _ = [_, _, _, _, _, _, _, _, _, _, _])) ?_
       refine QL.lvN T rfl rfl rfl rfl rfl (by repeat first | exact At.head _ _ | assumption | exact At.put (by assumption) _ | apply At.tail | apply At.app) (by exact (rfl : _ = [_, _, _, _, _, _, _, _, _, _, _])) ?_
       refine QL.c fun12 (fun hs => fsame f a1 f.data.length c1 (Rd.rowh hs (by repeat first | exact At.head _ _ | apply At.tail)) rfl hm hf f sa f.data.length c (hR _) rfl hm hf) ?_
       refine QL.p T ?_
       refine QL.p T ?_
       refine QL.join (fr1 := ?_) 4 20 false [21, 22, 23, 24] (fun hs0 hj => ?_) ?_ ?_
       rotate_left
       ·have hs0j := hs0
        try simp only [decide_eq_true_eq, Bool.not_eq_true', decide_eq_false_iff_not, Bool.not_eq_false', Int.not_lt, Int.not_le, Int.toNat_natCast, Bool.and_eq_true, Bool.or_eq_true, Bool.and_eq_false_iff, Bool.or_eq_false_iff] at hs0
        refine QL.lvN T rfl rfl rfl rfl rfl (by repeat first | exact At.head _ _ | assumption | exact At.put (by assumption) _ | apply At.tail | apply At.app) (by exact (rfl : _ = [_, _, _, _, _, _, _, _, _, _, _])) ?_
        refine QL.lvN T rfl rfl rfl rfl rfl (by repeat first | exact At.head _ _ | assumption | exact At.put (by assumption) _ | apply At.tail | apply At.app) (by exact (rfl : _ = [_, _, _, _, _, _, _, _, _, _, _])) ?_
        refine QL.c fun12 (fun hs => fsame f sa f.data.length c (hR _) rfl hm hf f a1 f.data.length c1 (Rd.rowh hs (by repeat first | exact At.head _ _ | apply At.tail)) rfl hm hf) ?_
        refine QL.p T ?_
        exact hj
       ·repeat first | exact Mx.refl | exact Mx.mix | refine Mx.put rfl ?_ | refine Mx.upd rfl ?_ | refine Mx.updl rfl ?_ | refine Mx.fin rfl ?_ | refine Mx.inner rfl ?_ | refine Mx.none ?_
       refine QL.or ?_
       refine QL.p T ?_
       refine QL.join (fr1 := ?_) 5 26 false [27, 28, 29, 30, 31] (fun hs1 hj => ?_) ?_ ?_
       rotate_left
       ·have hs1j := hs1
        try simp only [decide_eq_true_eq, Bool.not_eq_true', decide_eq_false_iff_not, Bool.not_eq_false', Int.not_lt, Int.not_le, Int.toNat_natCast, Bool.and_eq_true, Bool.or_eq_true, Bool.and_eq_false_iff, Bool.or_eq_false_iff] at hs1
        refine QL.lvN T rfl rfl rfl rfl rfl (by repeat first | exact At.head _ _ | assumption | exact At.put (by assumption) _ | apply At.tail | apply At.app) (by exact (rfl : _ = [_, _, _, _, _, _, _, _, _, _, _])) ?_
        refine QL.c fun10 (fun hs => fcheck f a1 f.data.length c1 (Rd.rowh hs (by repeat first | exact At.head _ _ | apply At.tail)) rfl hm hf) ?_
        refine QL.lvN T rfl rfl rfl rfl rfl (by repeat first | exact At.head _ _ | assumption | exact At.put (by assumption) _ | apply At.tail | apply At.app) (by exact (rfl : _ = [_, _, _, _, _, _, _, _, _, _, _])) ?_
        refine QL.c fun10 (fun hs => fcheck f sa f.data.length c (hR _) rfl hm hf) ?_
        refine QL.p T ?_
        exact hj
       ·repeat first | exact Mx.refl | exact Mx.mix | refine Mx.put rfl ?_ | refine Mx.upd rfl ?_ | refine Mx.updl rfl ?_ | refine Mx.fin rfl ?_ | refine Mx.inner rfl ?_ | refine Mx.none ?_
       refine QL.or ?_
       refine QL.nil ?_
       refine hK9 _ _ _ ?_
       refine SW.cs (fun hc2 => ?_) (fun hc2 => ?_)
       ·skip
        first
         | (exfalso; first | omega | contradiction | (simp at hc0; done))
         | (
          refine SW.seq_k fun K10 hK10 => ?_
          refine SW.region _ _ _ _ ?_
          refine RL.p T ?_
          refine RL.nil _ _ _ _ ?_
          refine hK10 _ _ _ ?_
          refine SW.ret ?_
          refine retQ.rr (H) ?_
          clear hK10 K10 hK9 K9 hK8 K8 hK7 K7 hK5 K5 hK4 K4 hK2 K2 hK1 K1 hK0 K0
          first
            | exact ⟨rfl, rfl⟩
            | (exfalso; grind)
            | (refine ⟨boolE ?_, rfl⟩
               refine (congrArg (fun b => !b) (sameF_ne ?_)).trans rfl
               intro e
               first
                 | (exact absurd (congrArg Frm.kind e) (wrap_ne (k := .i64) hf.kind.1 hf.kind.2))
                 | (exact absurd (congrArg Frm.id e) (wrap_ne (k := .u32) hf.id.1 hf.id.2))
                 | (exact absurd (congrArg Frm.sdt e) (wrap_ne (k := .u8) hf.sdt.1 hf.sdt.2))
                 | (exact absurd (congrArg Frm.vcid e) (wrap_ne (k := .u8) hf.vcid.1 hf.vcid.2))
                 | (exact absurd (congrArg Frm.af e) (wrap_ne (k := .u32) hf.af.1 hf.af.2))
                 | (have h := congrArg Frm.ext e; revert h; dsimp only; cases f.ext <;> intro h <;> cases h; done)
                 | (have h := congrArg Frm.rtr e; revert h; dsimp only; cases f.rtr <;> intro h <;> cases h; done)
                 | (have h := congrArg Frm.brs e; revert h; dsimp only; cases f.brs <;> intro h <;> cases h; done)
                 | (have h := congrArg Frm.esi e; revert h; dsimp only; cases f.esi <;> intro h <;> cases h; done)
                 | (have h := congrArg Frm.sec e; revert h; dsimp only; cases f.sec <;> intro h <;> cases h; done)
                 | (have h := congrArg (fun g => g.data.length) e; simp at h; done))
          )
       ·skip
        first
         | (exfalso; first | omega | contradiction | (simp at hc0; done))
         | (
          refine SW.skip ?_
          refine hK8 _ _ _ ?_
          refine SW.seq_k fun K11 hK11 => ?_
          refine SW.region _ _ _ _ ?_
          refine RL.lvN T rfl rfl rfl rfl rfl (by repeat first | exact At.head _ _ | assumption | exact At.put (by assumption) _ | apply At.tail | apply At.app) (by exact (rfl : _ = [_, _, _, _, _, _, _, _, _, _, _])) ?_
          refine RL.c fun20 (fun hs => fcopy f sa f.data.length c (hR _) rfl hm hf) ?_
          rintro _ _ ⟨a2, c2, rfl, e⟩; obtain rfl := e.symm
          refine RL.s ?_
          refine NV.alloc T rfl rfl rfl (by exact (rfl : _ = [_, _, _, _, _, _, _, _, _, _, _])) ?_
          intro b6_2
          refine RL.s ?_
          first
            | refine NV.store_var1 T rfl rfl rfl rfl (by conv => lhs; whnf) rfl (by repeat first | exact At.head _ _ | assumption | exact At.put (by assumption) _ | apply At.tail | apply At.app) rfl (by exact (rfl : _ = [_, _, _, _, _, _, _, _, _, _, _])) ?_
            | refine NV.store_var T rfl rfl rfl (by exact (rfl : _ = [_, _, _, _, _, _, _, _, _, _, _])) rfl rfl (by repeat first | exact At.head _ _ | assumption | exact At.put (by assumption) _ | apply At.tail | apply At.app) (Nat.le_of_ble_eq_true rfl) (by exact (rfl : _ = [_, _, _, _, _, _, _, _, _, _, _])) ?_
            | refine NV.store_elem T rfl rfl rfl rfl (by conv => lhs; whnf) rfl (by repeat first | exact At.head _ _ | assumption | exact At.put (by assumption) _ | apply At.tail | apply At.app) (by omega) ?_
          refine RL.nil _ _ _ _ ?_
          refine hK11 _ _ _ ?_
          refine SW.seq_k fun K12 hK12 => ?_
          refine SW.seq_k fun K13 hK13 => ?_
          refine SW.region _ _ _ _ ?_
          refine RL.p T ?_
          refine RL.lv1 T ?_
          refine RL.p T ?_
          refine RL.p T ?_
          refine RL.nil _ _ _ _ ?_
          refine hK13 _ _ _ ?_
          refine SW.block ?_
          refine SW.loopM (fun frB mm fr ds HH => ∃ (k : Nat) , mm = f.data.length - k ∧ (k ≤ f.data.length ∧ (True)) ∧ FrIs [7, 38, 39, 40, 41, 42, 43, 44, 45, 46, 47, 48] frB fr [(38, .int .i64 k)] ∧ ds = [] ∧ HH = (.var b6_2 25 (FC f a2 f.data.length c2) :: .row a2 f.data.length c2 5 1 (((f.data.take k).map inc ++ f.data.drop k).map (.int .u8)) :: .var b5_1 25 (FC f a1 f.data.length c1) :: .row a1 f.data.length c1 5 1 (f.data.map (.int .u8)) :: .var b2_0 25 (FC f sa f.data.length c) :: H)) (n := f.data.length - 0) ?_ ?_
          ·exact ⟨0, rfl, ⟨Nat.zero_le _, trivial⟩, (.cons rfl (.nil (by repeat first | exact Mx.refl | exact Mx.mix | refine Mx.put rfl ?_ | refine Mx.upd rfl ?_ | refine Mx.updl rfl ?_ | refine Mx.fin rfl ?_ | refine Mx.inner rfl ?_ | refine Mx.none ?_))), rfl, (by simp)⟩
          ·rintro mm fr ds HH ⟨k, rfl, ⟨hk, _⟩, hFr, rfl, eHH⟩
           obtain rfl := eHH.symm
           obtain ⟨frU, rfl⟩ := hFr.eq
           clear hFr
           have hkl : ((f.data.take k).map inc ++ f.data.drop k).length = f.data.length := by simp [List.length_take]; omega
           refine SW.seq_k fun K14 hK14 => ?_
           refine SW.region _ _ _ _ ?_
           refine RL.p T ?_
           refine RL.nil _ _ _ _ ?_
           refine hK14 _ _ _ ?_
           refine SW.seq_k fun K15 hK15 => ?_
           refine SW.cs (fun hc3 => ?_) (fun hc3 => ?_)
           ·skip
            first
             | (exfalso; first | omega | contradiction | (simp at hc0; done))
             | (
              refine SW.skip ?_
              refine hK15 _ _ _ ?_
              refine SW.seq_k fun K16 hK16 => ?_
              refine SW.block ?_
              refine SW.seq_k fun K17 hK17 => ?_
              refine SW.region _ _ _ _ ?_
              refine RL.p T ?_
              refine RL.p T ?_
              refine RL.nil _ _ _ _ ?_
              refine hK17 _ _ _ ?_
              refine SW.region _ _ _ _ ?_
              refine RL.p T ?_
              refine RL.lv1 T ?_
              refine RL.p T ?_
              refine RL.ix T ?_
              refine RL.le T ?_ (hv := (map_as (by omega) (inc_get (by omega))))
              first | refine RL.arK ?_ | refine RL.p T ?_
              refine RL.ix T ?_
              refine RL.sei T ?_ (hl := (by omega))
              refine RL.nil _ _ _ _ ?_
              refine hK16 _ _ _ ?_
              refine SW.region _ _ _ _ ?_
              first | refine RL.ar ?_ | refine RL.p T ?_
              refine RL.p T ?_
              refine RL.nil _ _ _ _ ?_
              exact ⟨f.data.length - (k + 1), (by omega), k + 1, (by rfl), ⟨by omega, trivial⟩, (.cons rfl (.nil (by repeat first | exact Mx.refl | exact Mx.mix | refine Mx.put rfl ?_ | refine Mx.upd rfl ?_ | refine Mx.updl rfl ?_ | refine Mx.fin rfl ?_ | refine Mx.inner rfl ?_ | refine Mx.none ?_))), rfl, (by rw [← inc_step (by omega)]; rfl)⟩
              )
           ·skip
            first
             | (exfalso; first | omega | contradiction | (simp at hc0; done))
             | (
              refine SW.exit ?_
              refine hK12 _ _ _ ?_
              refine SW.seq_k fun K18 hK18 => ?_
              refine SW.seq_k fun K19 hK19 => ?_
              have hdone : (f.data.take k).map inc ++ f.data.drop k = f.data.map inc := by rw [List.take_of_length_le (by omega), List.drop_of_length_le (by omega), List.append_nil]
              rw [hdone]
              have hsi := fun h => same_inc hf h
              refine SW.region _ _ _ _ ?_
              refine RL.p T ?_
              refine RL.lv1 T ?_
              refine RL.p T ?_
              refine RL.p T ?_
              refine RL.p T ?_
              refine RL.join (fr1 := ?_) 3 53 true [54, 55, 56] (fun hs2 hj => ?_) ?_ ?_
              rotate_left
              ·have hs2j := hs2
               try simp only [decide_eq_true_eq, Bool.not_eq_true', decide_eq_false_iff_not, Bool.not_eq_false', Int.not_lt, Int.not_le, Int.toNat_natCast, Bool.and_eq_true, Bool.or_eq_true, Bool.and_eq_false_iff, Bool.or_eq_false_iff] at hs2
               refine RL.lvN T rfl rfl rfl rfl rfl (by repeat first | exact At.head _ _ | assumption | exact At.put (by assumption) _ | apply At.tail | apply At.app) (by exact (rfl : _ = [_, _, _, _, _, _, _, _, _, _, _])) ?_
               refine RL.lvN T rfl rfl rfl rfl rfl (by repeat first | exact At.head _ _ | assumption | exact At.put (by assumption) _ | apply At.tail | apply At.app) (by exact (rfl : _ = [_, _, _, _, _, _, _, _, _, _, _])) ?_
               refine RL.c fun12 (fun hs => fsame { f with data := f.data.map inc } a2 f.data.length c2 (Rd.rowh hs (by repeat first | exact At.head _ _ | apply At.tail)) (by simp) hm ⟨hf.kind, hf.id, hf.sdt, hf.vcid, hf.af, (inc_byte _)⟩ f sa f.data.length c (hR _) rfl hm hf) ?_
               rintro _ _ ⟨rfl, e⟩; obtain rfl := e.symm
               exact hj
              ·repeat first | exact Mx.refl | exact Mx.mix | refine Mx.put rfl ?_ | refine Mx.upd rfl ?_ | refine Mx.updl rfl ?_ | refine Mx.fin rfl ?_ | refine Mx.inner rfl ?_ | refine Mx.none ?_
              refine RL.and ?_
              refine RL.p T ?_
              refine RL.join (fr1 := ?_) 4 58 false [59, 60, 61, 62] (fun hs3 hj => ?_) ?_ ?_
              rotate_left
              ·have hs3j := hs3
               try simp only [decide_eq_true_eq, Bool.not_eq_true', decide_eq_false_iff_not, Bool.not_eq_false', Int.not_lt, Int.not_le, Int.toNat_natCast, Bool.and_eq_true, Bool.or_eq_true, Bool.and_eq_false_iff, Bool.or_eq_false_iff] at hs3
               refine RL.lvN T rfl rfl rfl rfl rfl (by repeat first | exact At.head _ _ | assumption | exact At.put (by assumption) _ | apply At.tail | apply At.app) (by exact (rfl : _ = [_, _, _, _, _, _, _, _, _, _, _])) ?_
               refine RL.lvN T rfl rfl rfl rfl rfl (by repeat first | exact At.head _ _ | assumption | exact At.put (by assumption) _ | apply At.tail | apply At.app) (by exact (rfl : _ = [_, _, _, _, _, _, _, _, _, _, _])) ?_
               refine RL.c fun12 (fun hs => fsame f a1 f.data.length c1 (Rd.rowh hs (by repeat first | exact At.head _ _ | apply At.tail)) rfl hm hf f sa f.data.length c (hR _) rfl hm hf) ?_
               rintro _ _ ⟨rfl, e⟩; obtain rfl := e.symm
               refine RL.p T ?_
               exact hj
              ·repeat first | exact Mx.refl | exact Mx.mix | refine Mx.put rfl ?_ | refine Mx.upd rfl ?_ | refine Mx.updl rfl ?_ | refine Mx.fin rfl ?_ | refine Mx.inner rfl ?_ | refine Mx.none ?_
              refine RL.or ?_
              refine RL.nil _ _ _ _ ?_
              refine hK19 _ _ _ ?_
              refine SW.cs (fun hc4 => ?_) (fun hc4 => ?_)
              ·skip
               first
                | (exfalso; first | omega | contradiction | (simp at hc0; done))
                | (
                 refine SW.seq_k fun K20 hK20 => ?_
                 refine SW.region _ _ _ _ ?_
                 refine RL.p T ?_
                 refine RL.nil _ _ _ _ ?_
                 refine hK20 _ _ _ ?_
                 refine SW.ret ?_
                 refine retQ.rr (H) ?_
                 clear hK20 K20 hK19 K19 hK18 K18 hK15 K15 hK14 K14 hK13 K13 hK12 K12 hK11 K11 hK9 K9 hK8 K8 hK7 K7 hK5 K5 hK4 K4 hK2 K2 hK1 K1 hK0 K0
                 first
                   | exact ⟨rfl, rfl⟩
                   | (exfalso; grind)
                   | (refine ⟨boolE ?_, rfl⟩
                      refine (congrArg (fun b => !b) (sameF_ne ?_)).trans rfl
                      intro e
                      first
                        | (exact absurd (congrArg Frm.kind e) (wrap_ne (k := .i64) hf.kind.1 hf.kind.2))
                        | (exact absurd (congrArg Frm.id e) (wrap_ne (k := .u32) hf.id.1 hf.id.2))
                        | (exact absurd (congrArg Frm.sdt e) (wrap_ne (k := .u8) hf.sdt.1 hf.sdt.2))
                        | (exact absurd (congrArg Frm.vcid e) (wrap_ne (k := .u8) hf.vcid.1 hf.vcid.2))
                        | (exact absurd (congrArg Frm.af e) (wrap_ne (k := .u32) hf.af.1 hf.af.2))
                        | (have h := congrArg Frm.ext e; revert h; dsimp only; cases f.ext <;> intro h <;> cases h; done)
                        | (have h := congrArg Frm.rtr e; revert h; dsimp only; cases f.rtr <;> intro h <;> cases h; done)
                        | (have h := congrArg Frm.brs e; revert h; dsimp only; cases f.brs <;> intro h <;> cases h; done)
                        | (have h := congrArg Frm.esi e; revert h; dsimp only; cases f.esi <;> intro h <;> cases h; done)
                        | (have h := congrArg Frm.sec e; revert h; dsimp only; cases f.sec <;> intro h <;> cases h; done)
                        | (have h := congrArg (fun g => g.data.length) e; simp at h; done))
                 )
              ·skip
               first
                | (exfalso; first | omega | contradiction | (simp at hc0; done))
                | (
                 refine SW.skip ?_
                 refine hK18 _ _ _ ?_
                 refine SW.seq_k fun K21 hK21 => ?_
                 refine SW.seq_k fun K22 hK22 => ?_
                 refine SW.region _ _ _ _ ?_
                 refine RL.p T ?_
                 first | refine RL.q (QV.remP rfl rfl rfl (by omega) (by omega)) ?_ | refine RL.q (QV.rem rfl rfl rfl (by omega) rfl) ?_
                 refine RL.nil _ _ _ _ ?_
                 refine hK22 _ _ _ ?_
                 refine SW.block ?_
                 refine SW.seq_k fun K23 hK23 => ?_
                 refine SW.region _ _ _ _ ?_
                 refine RL.p T ?_
                 refine RL.p T ?_
                 refine RL.nil _ _ _ _ ?_
                 refine hK23 _ _ _ ?_
                 refine SW.cs (fun hc5 => ?_) (fun hc5 => ?_)
                 ·skip
                  first
                   | (exfalso; first | omega | contradiction | (simp at hc0; done))
                   | (
                    refine SW.region _ _ _ _ ?_
                    refine RL.p T ?_
                    refine RL.lv1 T ?_
                    first | refine RL.ar ?_ | refine RL.p T ?_
                    refine RL.p T ?_
                    refine RL.sv1 T ?_
                    refine RL.nil _ _ _ _ ?_
                    refine hK21 _ _ _ ?_
                    refine SW.seq_k fun K24 hK24 => ?_
                    refine SW.region _ _ _ _ ?_
                    refine RL.lvN T rfl rfl rfl rfl rfl (by repeat first | exact At.head _ _ | assumption | exact At.put (by assumption) _ | apply At.tail | apply At.app) (by exact (rfl : _ = [_, _, _, _, _, _, _, _, _, _, _])) ?_
                    refine RL.lvN T rfl rfl rfl rfl rfl (by repeat first | exact At.head _ _ | assumption | exact At.put (by assumption) _ | apply At.tail | apply At.app) (by exact (rfl : _ = [_, _, _, _, _, _, _, _, _, _, _])) ?_
                    first
                      | refine RL.c fun12 (fun hs => fsame { f with kind := IntKind.i64.wrap (f.kind + 1) } a1 f.data.length c1 (Rd.rowh hs (by repeat first | exact At.head _ _ | apply At.tail)) rfl hm ⟨wrap_range .i64 _, hf.id, hf.sdt, hf.vcid, hf.af, hf.data⟩ f sa f.data.length c (hR _) rfl hm hf) ?_
                      | refine RL.c fun12 (fun hs => fsame { f with id := IntKind.u32.wrap (f.id + 1) } a1 f.data.length c1 (Rd.rowh hs (by repeat first | exact At.head _ _ | apply At.tail)) rfl hm ⟨hf.kind, wrap_range .u32 _, hf.sdt, hf.vcid, hf.af, hf.data⟩ f sa f.data.length c (hR _) rfl hm hf) ?_
                      | refine RL.c fun12 (fun hs => fsame { f with ext := !f.ext } a1 f.data.length c1 (Rd.rowh hs (by repeat first | exact At.head _ _ | apply At.tail)) rfl hm ⟨hf.kind, hf.id, hf.sdt, hf.vcid, hf.af, hf.data⟩ f sa f.data.length c (hR _) rfl hm hf) ?_
                      | refine RL.c fun12 (fun hs => fsame { f with rtr := !f.rtr } a1 f.data.length c1 (Rd.rowh hs (by repeat first | exact At.head _ _ | apply At.tail)) rfl hm ⟨hf.kind, hf.id, hf.sdt, hf.vcid, hf.af, hf.data⟩ f sa f.data.length c (hR _) rfl hm hf) ?_
                      | refine RL.c fun12 (fun hs => fsame { f with brs := !f.brs } a1 f.data.length c1 (Rd.rowh hs (by repeat first | exact At.head _ _ | apply At.tail)) rfl hm ⟨hf.kind, hf.id, hf.sdt, hf.vcid, hf.af, hf.data⟩ f sa f.data.length c (hR _) rfl hm hf) ?_
                      | refine RL.c fun12 (fun hs => fsame { f with esi := !f.esi } a1 f.data.length c1 (Rd.rowh hs (by repeat first | exact At.head _ _ | apply At.tail)) rfl hm ⟨hf.kind, hf.id, hf.sdt, hf.vcid, hf.af, hf.data⟩ f sa f.data.length c (hR _) rfl hm hf) ?_
                      | refine RL.c fun12 (fun hs => fsame { f with sec := !f.sec } a1 f.data.length c1 (Rd.rowh hs (by repeat first | exact At.head _ _ | apply At.tail)) rfl hm ⟨hf.kind, hf.id, hf.sdt, hf.vcid, hf.af, hf.data⟩ f sa f.data.length c (hR _) rfl hm hf) ?_
                      | refine RL.c fun12 (fun hs => fsame { f with sdt := IntKind.u8.wrap (f.sdt + 1) } a1 f.data.length c1 (Rd.rowh hs (by repeat first | exact At.head _ _ | apply At.tail)) rfl hm ⟨hf.kind, hf.id, wrap_range .u8 _, hf.vcid, hf.af, hf.data⟩ f sa f.data.length c (hR _) rfl hm hf) ?_
                      | refine RL.c fun12 (fun hs => fsame { f with vcid := IntKind.u8.wrap (f.vcid + 1) } a1 f.data.length c1 (Rd.rowh hs (by repeat first | exact At.head _ _ | apply At.tail)) rfl hm ⟨hf.kind, hf.id, hf.sdt, wrap_range .u8 _, hf.af, hf.data⟩ f sa f.data.length c (hR _) rfl hm hf) ?_
                      | refine RL.c fun12 (fun hs => fsame { f with af := IntKind.u32.wrap (f.af + 1) } a1 f.data.length c1 (Rd.rowh hs (by repeat first | exact At.head _ _ | apply At.tail)) rfl hm ⟨hf.kind, hf.id, hf.sdt, hf.vcid, wrap_range .u32 _, hf.data⟩ f sa f.data.length c (hR _) rfl hm hf) ?_
                      | refine RL.c fun12 (fun hs => fsame { f with data := f.data ++ [0] } a0_ (f.data.length + 1) c0_ (Rd.rowh hs (by repeat first | exact At.head _ _ | apply At.tail)) (by simp) (by omega) ⟨hf.kind, hf.id, hf.sdt, hf.vcid, hf.af, (hf.data.append (Byte.one (by omega) (by omega)))⟩ f sa f.data.length c (hR _) rfl hm hf) ?_
                    rintro _ _ ⟨rfl, e⟩; obtain rfl := e.symm
                    refine RL.p T ?_
                    refine RL.p T ?_
                    refine RL.nil _ _ _ _ ?_
                    refine hK24 _ _ _ ?_
                    refine SW.ret ?_
                    refine retQ.rr (H) ?_
                    clear hK24 K24 hK23 K23 hK22 K22 hK21 K21 hK19 K19 hK18 K18 hK15 K15 hK14 K14 hK13 K13 hK12 K12 hK11 K11 hK9 K9 hK8 K8 hK7 K7 hK5 K5 hK4 K4 hK2 K2 hK1 K1 hK0 K0
                    first
                      | exact ⟨rfl, rfl⟩
                      | (exfalso; grind)
                      | (refine ⟨boolE ?_, rfl⟩
                         refine (congrArg (fun b => !b) (sameF_ne ?_)).trans rfl
                         intro e
                         first
                           | (exact absurd (congrArg Frm.kind e) (wrap_ne (k := .i64) hf.kind.1 hf.kind.2))
                           | (exact absurd (congrArg Frm.id e) (wrap_ne (k := .u32) hf.id.1 hf.id.2))
                           | (exact absurd (congrArg Frm.sdt e) (wrap_ne (k := .u8) hf.sdt.1 hf.sdt.2))
                           | (exact absurd (congrArg Frm.vcid e) (wrap_ne (k := .u8) hf.vcid.1 hf.vcid.2))
                           | (exact absurd (congrArg Frm.af e) (wrap_ne (k := .u32) hf.af.1 hf.af.2))
                           | (have h := congrArg Frm.ext e; revert h; dsimp only; cases f.ext <;> intro h <;> cases h; done)
                           | (have h := congrArg Frm.rtr e; revert h; dsimp only; cases f.rtr <;> intro h <;> cases h; done)
                           | (have h := congrArg Frm.brs e; revert h; dsimp only; cases f.brs <;> intro h <;> cases h; done)
                           | (have h := congrArg Frm.esi e; revert h; dsimp only; cases f.esi <;> intro h <;> cases h; done)
                           | (have h := congrArg Frm.sec e; revert h; dsimp only; cases f.sec <;> intro h <;> cases h; done)
                           | (have h := congrArg (fun g => g.data.length) e; simp at h; done))
                    )
                 ·skip
                  first
                   | (exfalso; first | omega | contradiction | (simp at hc0; done))
                   | (
                    refine SW.seq_k fun K25 hK25 => ?_
                    refine SW.region _ _ _ _ ?_
                    refine RL.p T ?_
                    refine RL.p T ?_
                    refine RL.nil _ _ _ _ ?_
                    refine hK25 _ _ _ ?_
                    refine SW.cs (fun hc6 => ?_) (fun hc6 => ?_)
                    ·skip
                     first
                      | (exfalso; first | omega | contradiction | (simp at hc0; done))
                      | (
                       refine SW.region _ _ _ _ ?_
                       refine RL.p T ?_
                       refine RL.lv1 T ?_
                       first | refine RL.arK ?_ | refine RL.p T ?_
                       refine RL.p T ?_
                       refine RL.sv1 T ?_
                       refine RL.nil _ _ _ _ ?_
                       refine hK21 _ _ _ ?_
                       refine SW.seq_k fun K26 hK26 => ?_
                       refine SW.region _ _ _ _ ?_
                       refine RL.lvN T rfl rfl rfl rfl rfl (by repeat first | exact At.head _ _ | assumption | exact At.put (by assumption) _ | apply At.tail | apply At.app) (by exact (rfl : _ = [_, _, _, _, _, _, _, _, _, _, _])) ?_
                       refine RL.lvN T rfl rfl rfl rfl rfl (by repeat first | exact At.head _ _ | assumption | exact At.put (by assumption) _ | apply At.tail | apply At.app) (by exact (rfl : _ = [_, _, _, _, _, _, _, _, _, _, _])) ?_
                       first
                         | refine RL.c fun12 (fun hs => fsame { f with kind := IntKind.i64.wrap (f.kind + 1) } a1 f.data.length c1 (Rd.rowh hs (by repeat first | exact At.head _ _ | apply At.tail)) rfl hm ⟨wrap_range .i64 _, hf.id, hf.sdt, hf.vcid, hf.af, hf.data⟩ f sa f.data.length c (hR _) rfl hm hf) ?_
                         | refine RL.c fun12 (fun hs => fsame { f with id := IntKind.u32.wrap (f.id + 1) } a1 f.data.length c1 (Rd.rowh hs (by repeat first | exact At.head _ _ | apply At.tail)) rfl hm ⟨hf.kind, wrap_range .u32 _, hf.sdt, hf.vcid, hf.af, hf.data⟩ f sa f.data.length c (hR _) rfl hm hf) ?_
                         | refine RL.c fun12 (fun hs => fsame { f with ext := !f.ext } a1 f.data.length c1 (Rd.rowh hs (by repeat first | exact At.head _ _ | apply At.tail)) rfl hm ⟨hf.kind, hf.id, hf.sdt, hf.vcid, hf.af, hf.data⟩ f sa f.data.length c (hR _) rfl hm hf) ?_
                         | refine RL.c fun12 (fun hs => fsame { f with rtr := !f.rtr } a1 f.data.length c1 (Rd.rowh hs (by repeat first | exact At.head _ _ | apply At.tail)) rfl hm ⟨hf.kind, hf.id, hf.sdt, hf.vcid, hf.af, hf.data⟩ f sa f.data.length c (hR _) rfl hm hf) ?_
                         | refine RL.c fun12 (fun hs => fsame { f with brs := !f.brs } a1 f.data.length c1 (Rd.rowh hs (by repeat first | exact At.head _ _ | apply At.tail)) rfl hm ⟨hf.kind, hf.id, hf.sdt, hf.vcid, hf.af, hf.data⟩ f sa f.data.length c (hR _) rfl hm hf) ?_
                         | refine RL.c fun12 (fun hs => fsame { f with esi := !f.esi } a1 f.data.length c1 (Rd.rowh hs (by repeat first | exact At.head _ _ | apply At.tail)) rfl hm ⟨hf.kind, hf.id, hf.sdt, hf.vcid, hf.af, hf.data⟩ f sa f.data.length c (hR _) rfl hm hf) ?_
                         | refine RL.c fun12 (fun hs => fsame { f with sec := !f.sec } a1 f.data.length c1 (Rd.rowh hs (by repeat first | exact At.head _ _ | apply At.tail)) rfl hm ⟨hf.kind, hf.id, hf.sdt, hf.vcid, hf.af, hf.data⟩ f sa f.data.length c (hR _) rfl hm hf) ?_
                         | refine RL.c fun12 (fun hs => fsame { f with sdt := IntKind.u8.wrap (f.sdt + 1) } a1 f.data.length c1 (Rd.rowh hs (by repeat first | exact At.head _ _ | apply At.tail)) rfl hm ⟨hf.kind, hf.id, wrap_range .u8 _, hf.vcid, hf.af, hf.data⟩ f sa f.data.length c (hR _) rfl hm hf) ?_
                         | refine RL.c fun12 (fun hs => fsame { f with vcid := IntKind.u8.wrap (f.vcid + 1) } a1 f.data.length c1 (Rd.rowh hs (by repeat first | exact At.head _ _ | apply At.tail)) rfl hm ⟨hf.kind, hf.id, hf.sdt, wrap_range .u8 _, hf.af, hf.data⟩ f sa f.data.length c (hR _) rfl hm hf) ?_
                         | refine RL.c fun12 (fun hs => fsame { f with af := IntKind.u32.wrap (f.af + 1) } a1 f.data.length c1 (Rd.rowh hs (by repeat first | exact At.head _ _ | apply At.tail)) rfl hm ⟨hf.kind, hf.id, hf.sdt, hf.vcid, wrap_range .u32 _, hf.data⟩ f sa f.data.length c (hR _) rfl hm hf) ?_
                         | refine RL.c fun12 (fun hs => fsame { f with data := f.data ++ [0] } a0_ (f.data.length + 1) c0_ (Rd.rowh hs (by repeat first | exact At.head _ _ | apply At.tail)) (by simp) (by omega) ⟨hf.kind, hf.id, hf.sdt, hf.vcid, hf.af, (hf.data.append (Byte.one (by omega) (by omega)))⟩ f sa f.data.length c (hR _) rfl hm hf) ?_
                       rintro _ _ ⟨rfl, e⟩; obtain rfl := e.symm
                       refine RL.p T ?_
                       refine RL.p T ?_
                       refine RL.nil _ _ _ _ ?_
                       refine hK26 _ _ _ ?_
                       refine SW.ret ?_
                       refine retQ.rr (H) ?_
                       clear hK26 K26 hK25 K25 hK23 K23 hK22 K22 hK21 K21 hK19 K19 hK18 K18 hK15 K15 hK14 K14 hK13 K13 hK12 K12 hK11 K11 hK9 K9 hK8 K8 hK7 K7 hK5 K5 hK4 K4 hK2 K2 hK1 K1 hK0 K0
                       first
                         | exact ⟨rfl, rfl⟩
                         | (exfalso; grind)
                         | (refine ⟨boolE ?_, rfl⟩
                            refine (congrArg (fun b => !b) (sameF_ne ?_)).trans rfl
                            intro e
                            first
                              | (exact absurd (congrArg Frm.kind e) (wrap_ne (k := .i64) hf.kind.1 hf.kind.2))
                              | (exact absurd (congrArg Frm.id e) (wrap_ne (k := .u32) hf.id.1 hf.id.2))
                              | (exact absurd (congrArg Frm.sdt e) (wrap_ne (k := .u8) hf.sdt.1 hf.sdt.2))
                              | (exact absurd (congrArg Frm.vcid e) (wrap_ne (k := .u8) hf.vcid.1 hf.vcid.2))
                              | (exact absurd (congrArg Frm.af e) (wrap_ne (k := .u32) hf.af.1 hf.af.2))
                              | (have h := congrArg Frm.ext e; revert h; dsimp only; cases f.ext <;> intro h <;> cases h; done)
                              | (have h := congrArg Frm.rtr e; revert h; dsimp only; cases f.rtr <;> intro h <;> cases h; done)
                              | (have h := congrArg Frm.brs e; revert h; dsimp only; cases f.brs <;> intro h <;> cases h; done)
                              | (have h := congrArg Frm.esi e; revert h; dsimp only; cases f.esi <;> intro h <;> cases h; done)
                              | (have h := congrArg Frm.sec e; revert h; dsimp only; cases f.sec <;> intro h <;> cases h; done)
                              | (have h := congrArg (fun g => g.data.length) e; simp at h; done))
                       )
                    ·skip
                     first
                      | (exfalso; first | omega | contradiction | (simp at hc0; done))
                      | (
                       refine SW.seq_k fun K27 hK27 => ?_
                       refine SW.region _ _ _ _ ?_
                       refine RL.p T ?_
                       refine RL.p T ?_
                       refine RL.nil _ _ _ _ ?_
                       refine hK27 _ _ _ ?_
                       refine SW.cs (fun hc7 => ?_) (fun hc7 => ?_)
                       ·skip
                        first
                         | (exfalso; first | omega | contradiction | (simp at hc0; done))
                         | (
                          refine SW.region _ _ _ _ ?_
                          refine RL.p T ?_
                          refine RL.lv1 T ?_
                          refine RL.p T ?_
                          refine RL.p T ?_
                          refine RL.sv1 T ?_
                          refine RL.nil _ _ _ _ ?_
                          refine hK21 _ _ _ ?_
                          refine SW.seq_k fun K28 hK28 => ?_
                          refine SW.region _ _ _ _ ?_
                          refine RL.lvN T rfl rfl rfl rfl rfl (by repeat first | exact At.head _ _ | assumption | exact At.put (by assumption) _ | apply At.tail | apply At.app) (by exact (rfl : _ = [_, _, _, _, _, _, _, _, _, _, _])) ?_
                          refine RL.lvN T rfl rfl rfl rfl rfl (by repeat first | exact At.head _ _ | assumption | exact At.put (by assumption) _ | apply At.tail | apply At.app) (by exact (rfl : _ = [_, _, _, _, _, _, _, _, _, _, _])) ?_
                          first
                            | refine RL.c fun12 (fun hs => fsame { f with kind := IntKind.i64.wrap (f.kind + 1) } a1 f.data.length c1 (Rd.rowh hs (by repeat first | exact At.head _ _ | apply At.tail)) rfl hm ⟨wrap_range .i64 _, hf.id, hf.sdt, hf.vcid, hf.af, hf.data⟩ f sa f.data.length c (hR _) rfl hm hf) ?_
                            | refine RL.c fun12 (fun hs => fsame { f with id := IntKind.u32.wrap (f.id + 1) } a1 f.data.length c1 (Rd.rowh hs (by repeat first | exact At.head _ _ | apply At.tail)) rfl hm ⟨hf.kind, wrap_range .u32 _, hf.sdt, hf.vcid, hf.af, hf.data⟩ f sa f.data.length c (hR _) rfl hm hf) ?_
                            | refine RL.c fun12 (fun hs => fsame { f with ext := !f.ext } a1 f.data.length c1 (Rd.rowh hs (by repeat first | exact At.head _ _ | apply At.tail)) rfl hm ⟨hf.kind, hf.id, hf.sdt, hf.vcid, hf.af, hf.data⟩ f sa f.data.length c (hR _) rfl hm hf) ?_
                            | refine RL.c fun12 (fun hs => fsame { f with rtr := !f.rtr } a1 f.data.length c1 (Rd.rowh hs (by repeat first | exact At.head _ _ | apply At.tail)) rfl hm ⟨hf.kind, hf.id, hf.sdt, hf.vcid, hf.af, hf.data⟩ f sa f.data.length c (hR _) rfl hm hf) ?_
                            | refine RL.c fun12 (fun hs => fsame { f with brs := !f.brs } a1 f.data.length c1 (Rd.rowh hs (by repeat first | exact At.head _ _ | apply At.tail)) rfl hm ⟨hf.kind, hf.id, hf.sdt, hf.vcid, hf.af, hf.data⟩ f sa f.data.length c (hR _) rfl hm hf) ?_
                            | refine RL.c fun12 (fun hs => fsame { f with esi := !f.esi } a1 f.data.length c1 (Rd.rowh hs (by repeat first | exact At.head _ _ | apply At.tail)) rfl hm ⟨hf.kind, hf.id, hf.sdt, hf.vcid, hf.af, hf.data⟩ f sa f.data.length c (hR _) rfl hm hf) ?_
                            | refine RL.c fun12 (fun hs => fsame { f with sec := !f.sec } a1 f.data.length c1 (Rd.rowh hs (by repeat first | exact At.head _ _ | apply At.tail)) rfl hm ⟨hf.kind, hf.id, hf.sdt, hf.vcid, hf.af, hf.data⟩ f sa f.data.length c (hR _) rfl hm hf) ?_
                            | refine RL.c fun12 (fun hs => fsame { f with sdt := IntKind.u8.wrap (f.sdt + 1) } a1 f.data.length c1 (Rd.rowh hs (by repeat first | exact At.head _ _ | apply At.tail)) rfl hm ⟨hf.kind, hf.id, wrap_range .u8 _, hf.vcid, hf.af, hf.data⟩ f sa f.data.length c (hR _) rfl hm hf) ?_
                            | refine RL.c fun12 (fun hs => fsame { f with vcid := IntKind.u8.wrap (f.vcid + 1) } a1 f.data.length c1 (Rd.rowh hs (by repeat first | exact At.head _ _ | apply At.tail)) rfl hm ⟨hf.kind, hf.id, hf.sdt, wrap_range .u8 _, hf.af, hf.data⟩ f sa f.data.length c (hR _) rfl hm hf) ?_
                            | refine RL.c fun12 (fun hs => fsame { f with af := IntKind.u32.wrap (f.af + 1) } a1 f.data.length c1 (Rd.rowh hs (by repeat first | exact At.head _ _ | apply At.tail)) rfl hm ⟨hf.kind, hf.id, hf.sdt, hf.vcid, wrap_range .u32 _, hf.data⟩ f sa f.data.length c (hR _) rfl hm hf) ?_
                            | refine RL.c fun12 (fun hs => fsame { f with data := f.data ++ [0] } a0_ (f.data.length + 1) c0_ (Rd.rowh hs (by repeat first | exact At.head _ _ | apply At.tail)) (by simp) (by omega) ⟨hf.kind, hf.id, hf.sdt, hf.vcid, hf.af, (hf.data.append (Byte.one (by omega) (by omega)))⟩ f sa f.data.length c (hR _) rfl hm hf) ?_
                          rintro _ _ ⟨rfl, e⟩; obtain rfl := e.symm
                          refine RL.p T ?_
                          refine RL.p T ?_
                          refine RL.nil _ _ _ _ ?_
                          refine hK28 _ _ _ ?_
                          refine SW.ret ?_
                          refine retQ.rr (H) ?_
                          clear hK28 K28 hK27 K27 hK25 K25 hK23 K23 hK22 K22 hK21 K21 hK19 K19 hK18 K18 hK15 K15 hK14 K14 hK13 K13 hK12 K12 hK11 K11 hK9 K9 hK8 K8 hK7 K7 hK5 K5 hK4 K4 hK2 K2 hK1 K1 hK0 K0
                          first
                            | exact ⟨rfl, rfl⟩
                            | (exfalso; grind)
                            | (refine ⟨boolE ?_, rfl⟩
                               refine (congrArg (fun b => !b) (sameF_ne ?_)).trans rfl
                               intro e
                               first
                                 | (exact absurd (congrArg Frm.kind e) (wrap_ne (k := .i64) hf.kind.1 hf.kind.2))
                                 | (exact absurd (congrArg Frm.id e) (wrap_ne (k := .u32) hf.id.1 hf.id.2))
                                 | (exact absurd (congrArg Frm.sdt e) (wrap_ne (k := .u8) hf.sdt.1 hf.sdt.2))
                                 | (exact absurd (congrArg Frm.vcid e) (wrap_ne (k := .u8) hf.vcid.1 hf.vcid.2))
                                 | (exact absurd (congrArg Frm.af e) (wrap_ne (k := .u32) hf.af.1 hf.af.2))
                                 | (have h := congrArg Frm.ext e; revert h; dsimp only; cases f.ext <;> intro h <;> cases h; done)
                                 | (have h := congrArg Frm.rtr e; revert h; dsimp only; cases f.rtr <;> intro h <;> cases h; done)
                                 | (have h := congrArg Frm.brs e; revert h; dsimp only; cases f.brs <;> intro h <;> cases h; done)
                                 | (have h := congrArg Frm.esi e; revert h; dsimp only; cases f.esi <;> intro h <;> cases h; done)
                                 | (have h := congrArg Frm.sec e; revert h; dsimp only; cases f.sec <;> intro h <;> cases h; done)
                                 | (have h := congrArg (fun g => g.data.length) e; simp at h; done))
                          )
                       ·skip
                        first
                         | (exfalso; first | omega | contradiction | (simp at hc0; done))
                         | (
                          refine SW.seq_k fun K29 hK29 => ?_
                          refine SW.region _ _ _ _ ?_
                          refine RL.p T ?_
                          refine RL.p T ?_
                          refine RL.nil _ _ _ _ ?_
                          refine hK29 _ _ _ ?_
                          refine SW.cs (fun hc8 => ?_) (fun hc8 => ?_)
                          ·skip
                           first
                            | (exfalso; first | omega | contradiction | (simp at hc0; done))
                            | (
                             refine SW.region _ _ _ _ ?_
                             refine RL.p T ?_
                             refine RL.lv1 T ?_
                             refine RL.p T ?_
                             refine RL.p T ?_
                             refine RL.sv1 T ?_
                             refine RL.nil _ _ _ _ ?_
                             refine hK21 _ _ _ ?_
                             refine SW.seq_k fun K30 hK30 => ?_
                             refine SW.region _ _ _ _ ?_
                             refine RL.lvN T rfl rfl rfl rfl rfl (by repeat first | exact At.head _ _ | assumption | exact At.put (by assumption) _ | apply At.tail | apply At.app) (by exact (rfl : _ = [_, _, _, _, _, _, _, _, _, _, _])) ?_
                             refine RL.lvN T rfl rfl rfl rfl rfl (by repeat first | exact At.head _ _ | assumption | exact At.put (by assumption) _ | apply At.tail | apply At.app) (by exact (rfl : _ = [_, _, _, _, _, _, _, _, _, _, _])) ?_
                             first
                               | refine RL.c fun12 (fun hs => fsame { f with kind := IntKind.i64.wrap (f.kind + 1) } a1 f.data.length c1 (Rd.rowh hs (by repeat first | exact At.head _ _ | apply At.tail)) rfl hm ⟨wrap_range .i64 _, hf.id, hf.sdt, hf.vcid, hf.af, hf.data⟩ f sa f.data.length c (hR _) rfl hm hf) ?_
                               | refine RL.c fun12 (fun hs => fsame { f with id := IntKind.u32.wrap (f.id + 1) } a1 f.data.length c1 (Rd.rowh hs (by repeat first | exact At.head _ _ | apply At.tail)) rfl hm ⟨hf.kind, wrap_range .u32 _, hf.sdt, hf.vcid, hf.af, hf.data⟩ f sa f.data.length c (hR _) rfl hm hf) ?_
                               | refine RL.c fun12 (fun hs => fsame { f with ext := !f.ext } a1 f.data.length c1 (Rd.rowh hs (by repeat first | exact At.head _ _ | apply At.tail)) rfl hm ⟨hf.kind, hf.id, hf.sdt, hf.vcid, hf.af, hf.data⟩ f sa f.data.length c (hR _) rfl hm hf) ?_
                               | refine RL.c fun12 (fun hs => fsame { f with rtr := !f.rtr } a1 f.data.length c1 (Rd.rowh hs (by repeat first | exact At.head _ _ | apply At.tail)) rfl hm ⟨hf.kind, hf.id, hf.sdt, hf.vcid, hf.af, hf.data⟩ f sa f.data.length c (hR _) rfl hm hf) ?_
                               | refine RL.c fun12 (fun hs => fsame { f with brs := !f.brs } a1 f.data.length c1 (Rd.rowh hs (by repeat first | exact At.head _ _ | apply At.tail)) rfl hm ⟨hf.kind, hf.id, hf.sdt, hf.vcid, hf.af, hf.data⟩ f sa f.data.length c (hR _) rfl hm hf) ?_
                               | refine RL.c fun12 (fun hs => fsame { f with esi := !f.esi } a1 f.data.length c1 (Rd.rowh hs (by repeat first | exact At.head _ _ | apply At.tail)) rfl hm ⟨hf.kind, hf.id, hf.sdt, hf.vcid, hf.af, hf.data⟩ f sa f.data.length c (hR _) rfl hm hf) ?_
                               | refine RL.c fun12 (fun hs => fsame { f with sec := !f.sec } a1 f.data.length c1 (Rd.rowh hs (by repeat first | exact At.head _ _ | apply At.tail)) rfl hm ⟨hf.kind, hf.id, hf.sdt, hf.vcid, hf.af, hf.data⟩ f sa f.data.length c (hR _) rfl hm hf) ?_
                               | refine RL.c fun12 (fun hs => fsame { f with sdt := IntKind.u8.wrap (f.sdt + 1) } a1 f.data.length c1 (Rd.rowh hs (by repeat first | exact At.head _ _ | apply At.tail)) rfl hm ⟨hf.kind, hf.id, wrap_range .u8 _, hf.vcid, hf.af, hf.data⟩ f sa f.data.length c (hR _) rfl hm hf) ?_
                               | refine RL.c fun12 (fun hs => fsame { f with vcid := IntKind.u8.wrap (f.vcid + 1) } a1 f.data.length c1 (Rd.rowh hs (by repeat first | exact At.head _ _ | apply At.tail)) rfl hm ⟨hf.kind, hf.id, hf.sdt, wrap_range .u8 _, hf.af, hf.data⟩ f sa f.data.length c (hR _) rfl hm hf) ?_
                               | refine RL.c fun12 (fun hs => fsame { f with af := IntKind.u32.wrap (f.af + 1) } a1 f.data.length c1 (Rd.rowh hs (by repeat first | exact At.head _ _ | apply At.tail)) rfl hm ⟨hf.kind, hf.id, hf.sdt, hf.vcid, wrap_range .u32 _, hf.data⟩ f sa f.data.length c (hR _) rfl hm hf) ?_
                               | refine RL.c fun12 (fun hs => fsame { f with data := f.data ++ [0] } a0_ (f.data.length + 1) c0_ (Rd.rowh hs (by repeat first | exact At.head _ _ | apply At.tail)) (by simp) (by omega) ⟨hf.kind, hf.id, hf.sdt, hf.vcid, hf.af, (hf.data.append (Byte.one (by omega) (by omega)))⟩ f sa f.data.length c (hR _) rfl hm hf) ?_
                             rintro _ _ ⟨rfl, e⟩; obtain rfl := e.symm
                             refine RL.p T ?_
                             refine RL.p T ?_
                             refine RL.nil _ _ _ _ ?_
                             refine hK30 _ _ _ ?_
                             refine SW.ret ?_
                             refine retQ.rr (H) ?_
                             clear hK30 K30 hK29 K29 hK27 K27 hK25 K25 hK23 K23 hK22 K22 hK21 K21 hK19 K19 hK18 K18 hK15 K15 hK14 K14 hK13 K13 hK12 K12 hK11 K11 hK9 K9 hK8 K8 hK7 K7 hK5 K5 hK4 K4 hK2 K2 hK1 K1 hK0 K0
                             first
                               | exact ⟨rfl, rfl⟩
                               | (exfalso; grind)
                               | (refine ⟨boolE ?_, rfl⟩
                                  refine (congrArg (fun b => !b) (sameF_ne ?_)).trans rfl
                                  intro e
                                  first
                                    | (exact absurd (congrArg Frm.kind e) (wrap_ne (k := .i64) hf.kind.1 hf.kind.2))
                                    | (exact absurd (congrArg Frm.id e) (wrap_ne (k := .u32) hf.id.1 hf.id.2))
                                    | (exact absurd (congrArg Frm.sdt e) (wrap_ne (k := .u8) hf.sdt.1 hf.sdt.2))
                                    | (exact absurd (congrArg Frm.vcid e) (wrap_ne (k := .u8) hf.vcid.1 hf.vcid.2))
                                    | (exact absurd (congrArg Frm.af e) (wrap_ne (k := .u32) hf.af.1 hf.af.2))
                                    | (have h := congrArg Frm.ext e; revert h; dsimp only; cases f.ext <;> intro h <;> cases h; done)
                                    | (have h := congrArg Frm.rtr e; revert h; dsimp only; cases f.rtr <;> intro h <;> cases h; done)
                                    | (have h := congrArg Frm.brs e; revert h; dsimp only; cases f.brs <;> intro h <;> cases h; done)
                                    | (have h := congrArg Frm.esi e; revert h; dsimp only; cases f.esi <;> intro h <;> cases h; done)
                                    | (have h := congrArg Frm.sec e; revert h; dsimp only; cases f.sec <;> intro h <;> cases h; done)
                                    | (have h := congrArg (fun g => g.data.length) e; simp at h; done))
                             )
                          ·skip
                           first
                            | (exfalso; first | omega | contradiction | (simp at hc0; done))
                            | (
                             refine SW.seq_k fun K31 hK31 => ?_
                             refine SW.region _ _ _ _ ?_
                             refine RL.p T ?_
                             refine RL.p T ?_
                             refine RL.nil _ _ _ _ ?_
                             refine hK31 _ _ _ ?_
                             refine SW.cs (fun hc9 => ?_) (fun hc9 => ?_)
                             ·skip
                              first
                               | (exfalso; first | omega | contradiction | (simp at hc0; done))
                               | (
                                refine SW.region _ _ _ _ ?_
                                refine RL.p T ?_
                                refine RL.lv1 T ?_
                                refine RL.p T ?_
                                refine RL.p T ?_
                                refine RL.sv1 T ?_
                                refine RL.nil _ _ _ _ ?_
                                refine hK21 _ _ _ ?_
                                refine SW.seq_k fun K32 hK32 => ?_
                                refine SW.region _ _ _ _ ?_
                                refine RL.lvN T rfl rfl rfl rfl rfl (by repeat first | exact At.head _ _ | assumption | exact At.put (by assumption) _ | apply At.tail | apply At.app) (by exact (rfl : _ = [_, _, _, _, _, _, _, _, _, _, _])) ?_
                                refine RL.lvN T rfl rfl rfl rfl rfl (by repeat first | exact At.head _ _ | assumption | exact At.put (by assumption) _ | apply At.tail | apply At.app) (by exact (rfl : _ = [_, _, _, _, _, _, _, _, _, _, _])) ?_
                                first
                                  | refine RL.c fun12 (fun hs => fsame { f with kind := IntKind.i64.wrap (f.kind + 1) } a1 f.data.length c1 (Rd.rowh hs (by repeat first | exact At.head _ _ | apply At.tail)) rfl hm ⟨wrap_range .i64 _, hf.id, hf.sdt, hf.vcid, hf.af, hf.data⟩ f sa f.data.length c (hR _) rfl hm hf) ?_
                                  | refine RL.c fun12 (fun hs => fsame { f with id := IntKind.u32.wrap (f.id + 1) } a1 f.data.length c1 (Rd.rowh hs (by repeat first | exact At.head _ _ | apply At.tail)) rfl hm ⟨hf.kind, wrap_range .u32 _, hf.sdt, hf.vcid, hf.af, hf.data⟩ f sa f.data.length c (hR _) rfl hm hf) ?_
                                  | refine RL.c fun12 (fun hs => fsame { f with ext := !f.ext } a1 f.data.length c1 (Rd.rowh hs (by repeat first | exact At.head _ _ | apply At.tail)) rfl hm ⟨hf.kind, hf.id, hf.sdt, hf.vcid, hf.af, hf.data⟩ f sa f.data.length c (hR _) rfl hm hf) ?_
                                  | refine RL.c fun12 (fun hs => fsame { f with rtr := !f.rtr } a1 f.data.length c1 (Rd.rowh hs (by repeat first | exact At.head _ _ | apply At.tail)) rfl hm ⟨hf.kind, hf.id, hf.sdt, hf.vcid, hf.af, hf.data⟩ f sa f.data.length c (hR _) rfl hm hf) ?_
                                  | refine RL.c fun12 (fun hs => fsame { f with brs := !f.brs } a1 f.data.length c1 (Rd.rowh hs (by repeat first | exact At.head _ _ | apply At.tail)) rfl hm ⟨hf.kind, hf.id, hf.sdt, hf.vcid, hf.af, hf.data⟩ f sa f.data.length c (hR _) rfl hm hf) ?_
                                  | refine RL.c fun12 (fun hs => fsame { f with esi := !f.esi } a1 f.data.length c1 (Rd.rowh hs (by repeat first | exact At.head _ _ | apply At.tail)) rfl hm ⟨hf.kind, hf.id, hf.sdt, hf.vcid, hf.af, hf.data⟩ f sa f.data.length c (hR _) rfl hm hf) ?_
                                  | refine RL.c fun12 (fun hs => fsame { f with sec := !f.sec } a1 f.data.length c1 (Rd.rowh hs (by repeat first | exact At.head _ _ | apply At.tail)) rfl hm ⟨hf.kind, hf.id, hf.sdt, hf.vcid, hf.af, hf.data⟩ f sa f.data.length c (hR _) rfl hm hf) ?_
                                  | refine RL.c fun12 (fun hs => fsame { f with sdt := IntKind.u8.wrap (f.sdt + 1) } a1 f.data.length c1 (Rd.rowh hs (by repeat first | exact At.head _ _ | apply At.tail)) rfl hm ⟨hf.kind, hf.id, wrap_range .u8 _, hf.vcid, hf.af, hf.data⟩ f sa f.data.length c (hR _) rfl hm hf) ?_
                                  | refine RL.c fun12 (fun hs => fsame { f with vcid := IntKind.u8.wrap (f.vcid + 1) } a1 f.data.length c1 (Rd.rowh hs (by repeat first | exact At.head _ _ | apply At.tail)) rfl hm ⟨hf.kind, hf.id, hf.sdt, wrap_range .u8 _, hf.af, hf.data⟩ f sa f.data.length c (hR _) rfl hm hf) ?_
                                  | refine RL.c fun12 (fun hs => fsame { f with af := IntKind.u32.wrap (f.af + 1) } a1 f.data.length c1 (Rd.rowh hs (by repeat first | exact At.head _ _ | apply At.tail)) rfl hm ⟨hf.kind, hf.id, hf.sdt, hf.vcid, wrap_range .u32 _, hf.data⟩ f sa f.data.length c (hR _) rfl hm hf) ?_
                                  | refine RL.c fun12 (fun hs => fsame { f with data := f.data ++ [0] } a0_ (f.data.length + 1) c0_ (Rd.rowh hs (by repeat first | exact At.head _ _ | apply At.tail)) (by simp) (by omega) ⟨hf.kind, hf.id, hf.sdt, hf.vcid, hf.af, (hf.data.append (Byte.one (by omega) (by omega)))⟩ f sa f.data.length c (hR _) rfl hm hf) ?_
                                rintro _ _ ⟨rfl, e⟩; obtain rfl := e.symm
                                refine RL.p T ?_
                                refine RL.p T ?_
                                refine RL.nil _ _ _ _ ?_
                                refine hK32 _ _ _ ?_
                                refine SW.ret ?_
                                refine retQ.rr (H) ?_
                                clear hK32 K32 hK31 K31 hK29 K29 hK27 K27 hK25 K25 hK23 K23 hK22 K22 hK21 K21 hK19 K19 hK18 K18 hK15 K15 hK14 K14 hK13 K13 hK12 K12 hK11 K11 hK9 K9 hK8 K8 hK7 K7 hK5 K5 hK4 K4 hK2 K2 hK1 K1 hK0 K0
                                first
                                  | exact ⟨rfl, rfl⟩
                                  | (exfalso; grind)
                                  | (refine ⟨boolE ?_, rfl⟩
                                     refine (congrArg (fun b => !b) (sameF_ne ?_)).trans rfl
                                     intro e
                                     first
                                       | (exact absurd (congrArg Frm.kind e) (wrap_ne (k := .i64) hf.kind.1 hf.kind.2))
                                       | (exact absurd (congrArg Frm.id e) (wrap_ne (k := .u32) hf.id.1 hf.id.2))
                                       | (exact absurd (congrArg Frm.sdt e) (wrap_ne (k := .u8) hf.sdt.1 hf.sdt.2))
                                       | (exact absurd (congrArg Frm.vcid e) (wrap_ne (k := .u8) hf.vcid.1 hf.vcid.2))
                                       | (exact absurd (congrArg Frm.af e) (wrap_ne (k := .u32) hf.af.1 hf.af.2))
                                       | (have h := congrArg Frm.ext e; revert h; dsimp only; cases f.ext <;> intro h <;> cases h; done)
                                       | (have h := congrArg Frm.rtr e; revert h; dsimp only; cases f.rtr <;> intro h <;> cases h; done)
                                       | (have h := congrArg Frm.brs e; revert h; dsimp only; cases f.brs <;> intro h <;> cases h; done)
                                       | (have h := congrArg Frm.esi e; revert h; dsimp only; cases f.esi <;> intro h <;> cases h; done)
                                       | (have h := congrArg Frm.sec e; revert h; dsimp only; cases f.sec <;> intro h <;> cases h; done)
                                       | (have h := congrArg (fun g => g.data.length) e; simp at h; done))
                                )
                             ·skip
                              first
                               | (exfalso; first | omega | contradiction | (simp at hc0; done))
                               | (
                                refine SW.seq_k fun K33 hK33 => ?_
                                refine SW.region _ _ _ _ ?_
                                refine RL.p T ?_
                                refine RL.p T ?_
                                refine RL.nil _ _ _ _ ?_
                                refine hK33 _ _ _ ?_
                                refine SW.cs (fun hc10 => ?_) (fun hc10 => ?_)
                                ·skip
                                 first
                                  | (exfalso; first | omega | contradiction | (simp at hc0; done))
                                  | (
                                   refine SW.region _ _ _ _ ?_
                                   refine RL.p T ?_
                                   refine RL.lv1 T ?_
                                   refine RL.p T ?_
                                   refine RL.p T ?_
                                   refine RL.sv1 T ?_
                                   refine RL.nil _ _ _ _ ?_
                                   refine hK21 _ _ _ ?_
                                   refine SW.seq_k fun K34 hK34 => ?_
                                   refine SW.region _ _ _ _ ?_
                                   refine RL.lvN T rfl rfl rfl rfl rfl (by repeat first | exact At.head _ _ | assumption | exact At.put (by assumption) _ | apply At.tail | apply At.app) (by exact (rfl : _ = [_, _, _, _, _, _, _, _, _, _, _])) ?_
                                   refine RL.lvN T rfl rfl rfl rfl rfl (by repeat first | exact At.head _ _ | assumption | exact At.put (by assumption) _ | apply At.tail | apply At.app) (by exact (rfl : _ = [_, _, _, _, _, _, _, _, _, _, _])) ?_
                                   first
                                     | refine RL.c fun12 (fun hs => fsame { f with kind := IntKind.i64.wrap (f.kind + 1) } a1 f.data.length c1 (Rd.rowh hs (by repeat first | exact At.head _ _ | apply At.tail)) rfl hm ⟨wrap_range .i64 _, hf.id, hf.sdt, hf.vcid, hf.af, hf.data⟩ f sa f.data.length c (hR _) rfl hm hf) ?_
                                     | refine RL.c fun12 (fun hs => fsame { f with id := IntKind.u32.wrap (f.id + 1) } a1 f.data.length c1 (Rd.rowh hs (by repeat first | exact At.head _ _ | apply At.tail)) rfl hm ⟨hf.kind, wrap_range .u32 _, hf.sdt, hf.vcid, hf.af, hf.data⟩ f sa f.data.length c (hR _) rfl hm hf) ?_
                                     | refine RL.c fun12 (fun hs => fsame { f with ext := !f.ext } a1 f.data.length c1 (Rd.rowh hs (by repeat first | exact At.head _ _ | apply At.tail)) rfl hm ⟨hf.kind, hf.id, hf.sdt, hf.vcid, hf.af, hf.data⟩ f sa f.data.length c (hR _) rfl hm hf) ?_
                                     | refine RL.c fun12 (fun hs => fsame { f with rtr := !f.rtr } a1 f.data.length c1 (Rd.rowh hs (by repeat first | exact At.head _ _ | apply At.tail)) rfl hm ⟨hf.kind, hf.id, hf.sdt, hf.vcid, hf.af, hf.data⟩ f sa f.data.length c (hR _) rfl hm hf) ?_
                                     | refine RL.c fun12 (fun hs => fsame { f with brs := !f.brs } a1 f.data.length c1 (Rd.rowh hs (by repeat first | exact At.head _ _ | apply At.tail)) rfl hm ⟨hf.kind, hf.id, hf.sdt, hf.vcid, hf.af, hf.data⟩ f sa f.data.length c (hR _) rfl hm hf) ?_
                                     | refine RL.c fun12 (fun hs => fsame { f with esi := !f.esi } a1 f.data.length c1 (Rd.rowh hs (by repeat first | exact At.head _ _ | apply At.tail)) rfl hm ⟨hf.kind, hf.id, hf.sdt, hf.vcid, hf.af, hf.data⟩ f sa f.data.length c (hR _) rfl hm hf) ?_
                                     | refine RL.c fun12 (fun hs => fsame { f with sec := !f.sec } a1 f.data.length c1 (Rd.rowh hs (by repeat first | exact At.head _ _ | apply At.tail)) rfl hm ⟨hf.kind, hf.id, hf.sdt, hf.vcid, hf.af, hf.data⟩ f sa f.data.length c (hR _) rfl hm hf) ?_
                                     | refine RL.c fun12 (fun hs => fsame { f with sdt := IntKind.u8.wrap (f.sdt + 1) } a1 f.data.length c1 (Rd.rowh hs (by repeat first | exact At.head _ _ | apply At.tail)) rfl hm ⟨hf.kind, hf.id, wrap_range .u8 _, hf.vcid, hf.af, hf.data⟩ f sa f.data.length c (hR _) rfl hm hf) ?_
                                     | refine RL.c fun12 (fun hs => fsame { f with vcid := IntKind.u8.wrap (f.vcid + 1) } a1 f.data.length c1 (Rd.rowh hs (by repeat first | exact At.head _ _ | apply At.tail)) rfl hm ⟨hf.kind, hf.id, hf.sdt, wrap_range .u8 _, hf.af, hf.data⟩ f sa f.data.length c (hR _) rfl hm hf) ?_
                                     | refine RL.c fun12 (fun hs => fsame { f with af := IntKind.u32.wrap (f.af + 1) } a1 f.data.length c1 (Rd.rowh hs (by repeat first | exact At.head _ _ | apply At.tail)) rfl hm ⟨hf.kind, hf.id, hf.sdt, hf.vcid, wrap_range .u32 _, hf.data⟩ f sa f.data.length c (hR _) rfl hm hf) ?_
                                     | refine RL.c fun12 (fun hs => fsame { f with data := f.data ++ [0] } a0_ (f.data.length + 1) c0_ (Rd.rowh hs (by repeat first | exact At.head _ _ | apply At.tail)) (by simp) (by omega) ⟨hf.kind, hf.id, hf.sdt, hf.vcid, hf.af, (hf.data.append (Byte.one (by omega) (by omega)))⟩ f sa f.data.length c (hR _) rfl hm hf) ?_
                                   rintro _ _ ⟨rfl, e⟩; obtain rfl := e.symm
                                   refine RL.p T ?_
                                   refine RL.p T ?_
                                   refine RL.nil _ _ _ _ ?_
                                   refine hK34 _ _ _ ?_
                                   refine SW.ret ?_
                                   refine retQ.rr (H) ?_
                                   clear hK34 K34 hK33 K33 hK31 K31 hK29 K29 hK27 K27 hK25 K25 hK23 K23 hK22 K22 hK21 K21 hK19 K19 hK18 K18 hK15 K15 hK14 K14 hK13 K13 hK12 K12 hK11 K11 hK9 K9 hK8 K8 hK7 K7 hK5 K5 hK4 K4 hK2 K2 hK1 K1 hK0 K0
                                   first
                                     | exact ⟨rfl, rfl⟩
                                     | (exfalso; grind)
                                     | (refine ⟨boolE ?_, rfl⟩
                                        refine (congrArg (fun b => !b) (sameF_ne ?_)).trans rfl
                                        intro e
                                        first
                                          | (exact absurd (congrArg Frm.kind e) (wrap_ne (k := .i64) hf.kind.1 hf.kind.2))
                                          | (exact absurd (congrArg Frm.id e) (wrap_ne (k := .u32) hf.id.1 hf.id.2))
                                          | (exact absurd (congrArg Frm.sdt e) (wrap_ne (k := .u8) hf.sdt.1 hf.sdt.2))
                                          | (exact absurd (congrArg Frm.vcid e) (wrap_ne (k := .u8) hf.vcid.1 hf.vcid.2))
                                          | (exact absurd (congrArg Frm.af e) (wrap_ne (k := .u32) hf.af.1 hf.af.2))
                                          | (have h := congrArg Frm.ext e; revert h; dsimp only; cases f.ext <;> intro h <;> cases h; done)
                                          | (have h := congrArg Frm.rtr e; revert h; dsimp only; cases f.rtr <;> intro h <;> cases h; done)
                                          | (have h := congrArg Frm.brs e; revert h; dsimp only; cases f.brs <;> intro h <;> cases h; done)
                                          | (have h := congrArg Frm.esi e; revert h; dsimp only; cases f.esi <;> intro h <;> cases h; done)
                                          | (have h := congrArg Frm.sec e; revert h; dsimp only; cases f.sec <;> intro h <;> cases h; done)
                                          | (have h := congrArg (fun g => g.data.length) e; simp at h; done))
                                   )
                                ·skip
                                 first
                                  | (exfalso; first | omega | contradiction | (simp at hc0; done))
                                  | (
                                   refine SW.seq_k fun K35 hK35 => ?_
                                   refine SW.region _ _ _ _ ?_
                                   refine RL.p T ?_
                                   refine RL.p T ?_
                                   refine RL.nil _ _ _ _ ?_
                                   refine hK35 _ _ _ ?_
                                   refine SW.cs (fun hc11 => ?_) (fun hc11 => ?_)
                                   ·skip
                                    first
                                     | (exfalso; first | omega | contradiction | (simp at hc0; done))
                                     | (
                                      refine SW.region _ _ _ _ ?_
                                      refine RL.p T ?_
                                      refine RL.lv1 T ?_
                                      refine RL.p T ?_
                                      refine RL.p T ?_
                                      refine RL.sv1 T ?_
                                      refine RL.nil _ _ _ _ ?_
                                      refine hK21 _ _ _ ?_
                                      refine SW.seq_k fun K36 hK36 => ?_
                                      refine SW.region _ _ _ _ ?_
                                      refine RL.lvN T rfl rfl rfl rfl rfl (by repeat first | exact At.head _ _ | assumption | exact At.put (by assumption) _ | apply At.tail | apply At.app) (by exact (rfl : _ = [_, _, _, _, _, _, _, _, _, _, _])) ?_
                                      refine RL.lvN T rfl rfl rfl rfl rfl (by repeat first | exact At.head _ _ | assumption | exact At.put (by assumption) _ | apply At.tail | apply At.app) (by exact (rfl : _ = [_, _, _, _, _, _, _, _, _, _, _])) ?_
                                      first
                                        | refine RL.c fun12 (fun hs => fsame { f with kind := IntKind.i64.wrap (f.kind + 1) } a1 f.data.length c1 (Rd.rowh hs (by repeat first | exact At.head _ _ | apply At.tail)) rfl hm ⟨wrap_range .i64 _, hf.id, hf.sdt, hf.vcid, hf.af, hf.data⟩ f sa f.data.length c (hR _) rfl hm hf) ?_
                                        | refine RL.c fun12 (fun hs => fsame { f with id := IntKind.u32.wrap (f.id + 1) } a1 f.data.length c1 (Rd.rowh hs (by repeat first | exact At.head _ _ | apply At.tail)) rfl hm ⟨hf.kind, wrap_range .u32 _, hf.sdt, hf.vcid, hf.af, hf.data⟩ f sa f.data.length c (hR _) rfl hm hf) ?_
                                        | refine RL.c fun12 (fun hs => fsame { f with ext := !f.ext } a1 f.data.length c1 (Rd.rowh hs (by repeat first | exact At.head _ _ | apply At.tail)) rfl hm ⟨hf.kind, hf.id, hf.sdt, hf.vcid, hf.af, hf.data⟩ f sa f.data.length c (hR _) rfl hm hf) ?_
                                        | refine RL.c fun12 (fun hs => fsame { f with rtr := !f.rtr } a1 f.data.length c1 (Rd.rowh hs (by repeat first | exact At.head _ _ | apply At.tail)) rfl hm ⟨hf.kind, hf.id, hf.sdt, hf.vcid, hf.af, hf.data⟩ f sa f.data.length c (hR _) rfl hm hf) ?_
                                        | refine RL.c fun12 (fun hs => fsame { f with brs := !f.brs } a1 f.data.length c1 (Rd.rowh hs (by repeat first | exact At.head _ _ | apply At.tail)) rfl hm ⟨hf.kind, hf.id, hf.sdt, hf.vcid, hf.af, hf.data⟩ f sa f.data.length c (hR _) rfl hm hf) ?_
                                        | refine RL.c fun12 (fun hs => fsame { f with esi := !f.esi } a1 f.data.length c1 (Rd.rowh hs (by repeat first | exact At.head _ _ | apply At.tail)) rfl hm ⟨hf.kind, hf.id, hf.sdt, hf.vcid, hf.af, hf.data⟩ f sa f.data.length c (hR _) rfl hm hf) ?_
                                        | refine RL.c fun12 (fun hs => fsame { f with sec := !f.sec } a1 f.data.length c1 (Rd.rowh hs (by repeat first | exact At.head _ _ | apply At.tail)) rfl hm ⟨hf.kind, hf.id, hf.sdt, hf.vcid, hf.af, hf.data⟩ f sa f.data.length c (hR _) rfl hm hf) ?_
                                        | refine RL.c fun12 (fun hs => fsame { f with sdt := IntKind.u8.wrap (f.sdt + 1) } a1 f.data.length c1 (Rd.rowh hs (by repeat first | exact At.head _ _ | apply At.tail)) rfl hm ⟨hf.kind, hf.id, wrap_range .u8 _, hf.vcid, hf.af, hf.data⟩ f sa f.data.length c (hR _) rfl hm hf) ?_
                                        | refine RL.c fun12 (fun hs => fsame { f with vcid := IntKind.u8.wrap (f.vcid + 1) } a1 f.data.length c1 (Rd.rowh hs (by repeat first | exact At.head _ _ | apply At.tail)) rfl hm ⟨hf.kind, hf.id, hf.sdt, wrap_range .u8 _, hf.af, hf.data⟩ f sa f.data.length c (hR _) rfl hm hf) ?_
                                        | refine RL.c fun12 (fun hs => fsame { f with af := IntKind.u32.wrap (f.af + 1) } a1 f.data.length c1 (Rd.rowh hs (by repeat first | exact At.head _ _ | apply At.tail)) rfl hm ⟨hf.kind, hf.id, hf.sdt, hf.vcid, wrap_range .u32 _, hf.data⟩ f sa f.data.length c (hR _) rfl hm hf) ?_
                                        | refine RL.c fun12 (fun hs => fsame { f with data := f.data ++ [0] } a0_ (f.data.length + 1) c0_ (Rd.rowh hs (by repeat first | exact At.head _ _ | apply At.tail)) (by simp) (by omega) ⟨hf.kind, hf.id, hf.sdt, hf.vcid, hf.af, (hf.data.append (Byte.one (by omega) (by omega)))⟩ f sa f.data.length c (hR _) rfl hm hf) ?_
                                      rintro _ _ ⟨rfl, e⟩; obtain rfl := e.symm
                                      refine RL.p T ?_
                                      refine RL.p T ?_
                                      refine RL.nil _ _ _ _ ?_
                                      refine hK36 _ _ _ ?_
                                      refine SW.ret ?_
                                      refine retQ.rr (H) ?_
                                      clear hK36 K36 hK35 K35 hK33 K33 hK31 K31 hK29 K29 hK27 K27 hK25 K25 hK23 K23 hK22 K22 hK21 K21 hK19 K19 hK18 K18 hK15 K15 hK14 K14 hK13 K13 hK12 K12 hK11 K11 hK9 K9 hK8 K8 hK7 K7 hK5 K5 hK4 K4 hK2 K2 hK1 K1 hK0 K0
                                      first
                                        | exact ⟨rfl, rfl⟩
                                        | (exfalso; grind)
                                        | (refine ⟨boolE ?_, rfl⟩
                                           refine (congrArg (fun b => !b) (sameF_ne ?_)).trans rfl
                                           intro e
                                           first
                                             | (exact absurd (congrArg Frm.kind e) (wrap_ne (k := .i64) hf.kind.1 hf.kind.2))
                                             | (exact absurd (congrArg Frm.id e) (wrap_ne (k := .u32) hf.id.1 hf.id.2))
                                             | (exact absurd (congrArg Frm.sdt e) (wrap_ne (k := .u8) hf.sdt.1 hf.sdt.2))
                                             | (exact absurd (congrArg Frm.vcid e) (wrap_ne (k := .u8) hf.vcid.1 hf.vcid.2))
                                             | (exact absurd (congrArg Frm.af e) (wrap_ne (k := .u32) hf.af.1 hf.af.2))
                                             | (have h := congrArg Frm.ext e; revert h; dsimp only; cases f.ext <;> intro h <;> cases h; done)
                                             | (have h := congrArg Frm.rtr e; revert h; dsimp only; cases f.rtr <;> intro h <;> cases h; done)
                                             | (have h := congrArg Frm.brs e; revert h; dsimp only; cases f.brs <;> intro h <;> cases h; done)
                                             | (have h := congrArg Frm.esi e; revert h; dsimp only; cases f.esi <;> intro h <;> cases h; done)
                                             | (have h := congrArg Frm.sec e; revert h; dsimp only; cases f.sec <;> intro h <;> cases h; done)
                                             | (have h := congrArg (fun g => g.data.length) e; simp at h; done))
                                      )
                                   ·skip
                                    first
                                     | (exfalso; first | omega | contradiction | (simp at hc0; done))
                                     | (
                                      refine SW.seq_k fun K37 hK37 => ?_
                                      refine SW.region _ _ _ _ ?_
                                      refine RL.p T ?_
                                      refine RL.p T ?_
                                      refine RL.nil _ _ _ _ ?_
                                      refine hK37 _ _ _ ?_
                                      refine SW.cs (fun hc12 => ?_) (fun hc12 => ?_)
                                      ·skip
                                       first
                                        | (exfalso; first | omega | contradiction | (simp at hc0; done))
                                        | (
                                         refine SW.region _ _ _ _ ?_
                                         refine RL.p T ?_
                                         refine RL.lv1 T ?_
                                         first | refine RL.arK ?_ | refine RL.p T ?_
                                         refine RL.p T ?_
                                         refine RL.sv1 T ?_
                                         refine RL.nil _ _ _ _ ?_
                                         refine hK21 _ _ _ ?_
                                         refine SW.seq_k fun K38 hK38 => ?_
                                         refine SW.region _ _ _ _ ?_
                                         refine RL.lvN T rfl rfl rfl rfl rfl (by repeat first | exact At.head _ _ | assumption | exact At.put (by assumption) _ | apply At.tail | apply At.app) (by exact (rfl : _ = [_, _, _, _, _, _, _, _, _, _, _])) ?_
                                         refine RL.lvN T rfl rfl rfl rfl rfl (by repeat first | exact At.head _ _ | assumption | exact At.put (by assumption) _ | apply At.tail | apply At.app) (by exact (rfl : _ = [_, _, _, _, _, _, _, _, _, _, _])) ?_
                                         first
                                           | refine RL.c fun12 (fun hs => fsame { f with kind := IntKind.i64.wrap (f.kind + 1) } a1 f.data.length c1 (Rd.rowh hs (by repeat first | exact At.head _ _ | apply At.tail)) rfl hm ⟨wrap_range .i64 _, hf.id, hf.sdt, hf.vcid, hf.af, hf.data⟩ f sa f.data.length c (hR _) rfl hm hf) ?_
                                           | refine RL.c fun12 (fun hs => fsame { f with id := IntKind.u32.wrap (f.id + 1) } a1 f.data.length c1 (Rd.rowh hs (by repeat first | exact At.head _ _ | apply At.tail)) rfl hm ⟨hf.kind, wrap_range .u32 _, hf.sdt, hf.vcid, hf.af, hf.data⟩ f sa f.data.length c (hR _) rfl hm hf) ?_
                                           | refine RL.c fun12 (fun hs => fsame { f with ext := !f.ext } a1 f.data.length c1 (Rd.rowh hs (by repeat first | exact At.head _ _ | apply At.tail)) rfl hm ⟨hf.kind, hf.id, hf.sdt, hf.vcid, hf.af, hf.data⟩ f sa f.data.length c (hR _) rfl hm hf) ?_
                                           | refine RL.c fun12 (fun hs => fsame { f with rtr := !f.rtr } a1 f.data.length c1 (Rd.rowh hs (by repeat first | exact At.head _ _ | apply At.tail)) rfl hm ⟨hf.kind, hf.id, hf.sdt, hf.vcid, hf.af, hf.data⟩ f sa f.data.length c (hR _) rfl hm hf) ?_
                                           | refine RL.c fun12 (fun hs => fsame { f with brs := !f.brs } a1 f.data.length c1 (Rd.rowh hs (by repeat first | exact At.head _ _ | apply At.tail)) rfl hm ⟨hf.kind, hf.id, hf.sdt, hf.vcid, hf.af, hf.data⟩ f sa f.data.length c (hR _) rfl hm hf) ?_
                                           | refine RL.c fun12 (fun hs => fsame { f with esi := !f.esi } a1 f.data.length c1 (Rd.rowh hs (by repeat first | exact At.head _ _ | apply At.tail)) rfl hm ⟨hf.kind, hf.id, hf.sdt, hf.vcid, hf.af, hf.data⟩ f sa f.data.length c (hR _) rfl hm hf) ?_
                                           | refine RL.c fun12 (fun hs => fsame { f with sec := !f.sec } a1 f.data.length c1 (Rd.rowh hs (by repeat first | exact At.head _ _ | apply At.tail)) rfl hm ⟨hf.kind, hf.id, hf.sdt, hf.vcid, hf.af, hf.data⟩ f sa f.data.length c (hR _) rfl hm hf) ?_
                                           | refine RL.c fun12 (fun hs => fsame { f with sdt := IntKind.u8.wrap (f.sdt + 1) } a1 f.data.length c1 (Rd.rowh hs (by repeat first | exact At.head _ _ | apply At.tail)) rfl hm ⟨hf.kind, hf.id, wrap_range .u8 _, hf.vcid, hf.af, hf.data⟩ f sa f.data.length c (hR _) rfl hm hf) ?_
                                           | refine RL.c fun12 (fun hs => fsame { f with vcid := IntKind.u8.wrap (f.vcid + 1) } a1 f.data.length c1 (Rd.rowh hs (by repeat first | exact At.head _ _ | apply At.tail)) rfl hm ⟨hf.kind, hf.id, hf.sdt, wrap_range .u8 _, hf.af, hf.data⟩ f sa f.data.length c (hR _) rfl hm hf) ?_
                                           | refine RL.c fun12 (fun hs => fsame { f with af := IntKind.u32.wrap (f.af + 1) } a1 f.data.length c1 (Rd.rowh hs (by repeat first | exact At.head _ _ | apply At.tail)) rfl hm ⟨hf.kind, hf.id, hf.sdt, hf.vcid, wrap_range .u32 _, hf.data⟩ f sa f.data.length c (hR _) rfl hm hf) ?_
                                           | refine RL.c fun12 (fun hs => fsame { f with data := f.data ++ [0] } a0_ (f.data.length + 1) c0_ (Rd.rowh hs (by repeat first | exact At.head _ _ | apply At.tail)) (by simp) (by omega) ⟨hf.kind, hf.id, hf.sdt, hf.vcid, hf.af, (hf.data.append (Byte.one (by omega) (by omega)))⟩ f sa f.data.length c (hR _) rfl hm hf) ?_
                                         rintro _ _ ⟨rfl, e⟩; obtain rfl := e.symm
                                         refine RL.p T ?_
                                         refine RL.p T ?_
                                         refine RL.nil _ _ _ _ ?_
                                         refine hK38 _ _ _ ?_
                                         refine SW.ret ?_
                                         refine retQ.rr (H) ?_
                                         clear hK38 K38 hK37 K37 hK35 K35 hK33 K33 hK31 K31 hK29 K29 hK27 K27 hK25 K25 hK23 K23 hK22 K22 hK21 K21 hK19 K19 hK18 K18 hK15 K15 hK14 K14 hK13 K13 hK12 K12 hK11 K11 hK9 K9 hK8 K8 hK7 K7 hK5 K5 hK4 K4 hK2 K2 hK1 K1 hK0 K0
                                         first
                                           | exact ⟨rfl, rfl⟩
                                           | (exfalso; grind)
                                           | (refine ⟨boolE ?_, rfl⟩
                                              refine (congrArg (fun b => !b) (sameF_ne ?_)).trans rfl
                                              intro e
                                              first
                                                | (exact absurd (congrArg Frm.kind e) (wrap_ne (k := .i64) hf.kind.1 hf.kind.2))
                                                | (exact absurd (congrArg Frm.id e) (wrap_ne (k := .u32) hf.id.1 hf.id.2))
                                                | (exact absurd (congrArg Frm.sdt e) (wrap_ne (k := .u8) hf.sdt.1 hf.sdt.2))
                                                | (exact absurd (congrArg Frm.vcid e) (wrap_ne (k := .u8) hf.vcid.1 hf.vcid.2))
                                                | (exact absurd (congrArg Frm.af e) (wrap_ne (k := .u32) hf.af.1 hf.af.2))
                                                | (have h := congrArg Frm.ext e; revert h; dsimp only; cases f.ext <;> intro h <;> cases h; done)
                                                | (have h := congrArg Frm.rtr e; revert h; dsimp only; cases f.rtr <;> intro h <;> cases h; done)
                                                | (have h := congrArg Frm.brs e; revert h; dsimp only; cases f.brs <;> intro h <;> cases h; done)
                                                | (have h := congrArg Frm.esi e; revert h; dsimp only; cases f.esi <;> intro h <;> cases h; done)
                                                | (have h := congrArg Frm.sec e; revert h; dsimp only; cases f.sec <;> intro h <;> cases h; done)
                                                | (have h := congrArg (fun g => g.data.length) e; simp at h; done))
                                         )
                                      ·skip
                                       first
                                        | (exfalso; first | omega | contradiction | (simp at hc0; done))
                                        | (
                                         refine SW.seq_k fun K39 hK39 => ?_
                                         refine SW.region _ _ _ _ ?_
                                         refine RL.p T ?_
                                         refine RL.p T ?_
                                         refine RL.nil _ _ _ _ ?_
                                         refine hK39 _ _ _ ?_
                                         refine SW.cs (fun hc13 => ?_) (fun hc13 => ?_)
                                         ·skip
                                          first
                                           | (exfalso; first | omega | contradiction | (simp at hc0; done))
                                           | (
                                            refine SW.region _ _ _ _ ?_
                                            refine RL.p T ?_
                                            refine RL.lv1 T ?_
                                            first | refine RL.arK ?_ | refine RL.p T ?_
                                            refine RL.p T ?_
                                            refine RL.sv1 T ?_
                                            refine RL.nil _ _ _ _ ?_
                                            refine hK21 _ _ _ ?_
                                            refine SW.seq_k fun K40 hK40 => ?_
                                            refine SW.region _ _ _ _ ?_
                                            refine RL.lvN T rfl rfl rfl rfl rfl (by repeat first | exact At.head _ _ | assumption | exact At.put (by assumption) _ | apply At.tail | apply At.app) (by exact (rfl : _ = [_, _, _, _, _, _, _, _, _, _, _])) ?_
                                            refine RL.lvN T rfl rfl rfl rfl rfl (by repeat first | exact At.head _ _ | assumption | exact At.put (by assumption) _ | apply At.tail | apply At.app) (by exact (rfl : _ = [_, _, _, _, _, _, _, _, _, _, _])) ?_
                                            first
                                              | refine RL.c fun12 (fun hs => fsame { f with kind := IntKind.i64.wrap (f.kind + 1) } a1 f.data.length c1 (Rd.rowh hs (by repeat first | exact At.head _ _ | apply At.tail)) rfl hm ⟨wrap_range .i64 _, hf.id, hf.sdt, hf.vcid, hf.af, hf.data⟩ f sa f.data.length c (hR _) rfl hm hf) ?_
                                              | refine RL.c fun12 (fun hs => fsame { f with id := IntKind.u32.wrap (f.id + 1) } a1 f.data.length c1 (Rd.rowh hs (by repeat first | exact At.head _ _ | apply At.tail)) rfl hm ⟨hf.kind, wrap_range .u32 _, hf.sdt, hf.vcid, hf.af, hf.data⟩ f sa f.data.length c (hR _) rfl hm hf) ?_
                                              | refine RL.c fun12 (fun hs => fsame { f with ext := !f.ext } a1 f.data.length c1 (Rd.rowh hs (by repeat first | exact At.head _ _ | apply At.tail)) rfl hm ⟨hf.kind, hf.id, hf.sdt, hf.vcid, hf.af, hf.data⟩ f sa f.data.length c (hR _) rfl hm hf) ?_
                                              | refine RL.c fun12 (fun hs => fsame { f with rtr := !f.rtr } a1 f.data.length c1 (Rd.rowh hs (by repeat first | exact At.head _ _ | apply At.tail)) rfl hm ⟨hf.kind, hf.id, hf.sdt, hf.vcid, hf.af, hf.data⟩ f sa f.data.length c (hR _) rfl hm hf) ?_
                                              | refine RL.c fun12 (fun hs => fsame { f with brs := !f.brs } a1 f.data.length c1 (Rd.rowh hs (by repeat first | exact At.head _ _ | apply At.tail)) rfl hm ⟨hf.kind, hf.id, hf.sdt, hf.vcid, hf.af, hf.data⟩ f sa f.data.length c (hR _) rfl hm hf) ?_
                                              | refine RL.c fun12 (fun hs => fsame { f with esi := !f.esi } a1 f.data.length c1 (Rd.rowh hs (by repeat first | exact At.head _ _ | apply At.tail)) rfl hm ⟨hf.kind, hf.id, hf.sdt, hf.vcid, hf.af, hf.data⟩ f sa f.data.length c (hR _) rfl hm hf) ?_
                                              | refine RL.c fun12 (fun hs => fsame { f with sec := !f.sec } a1 f.data.length c1 (Rd.rowh hs (by repeat first | exact At.head _ _ | apply At.tail)) rfl hm ⟨hf.kind, hf.id, hf.sdt, hf.vcid, hf.af, hf.data⟩ f sa f.data.length c (hR _) rfl hm hf) ?_
                                              | refine RL.c fun12 (fun hs => fsame { f with sdt := IntKind.u8.wrap (f.sdt + 1) } a1 f.data.length c1 (Rd.rowh hs (by repeat first | exact At.head _ _ | apply At.tail)) rfl hm ⟨hf.kind, hf.id, wrap_range .u8 _, hf.vcid, hf.af, hf.data⟩ f sa f.data.length c (hR _) rfl hm hf) ?_
                                              | refine RL.c fun12 (fun hs => fsame { f with vcid := IntKind.u8.wrap (f.vcid + 1) } a1 f.data.length c1 (Rd.rowh hs (by repeat first | exact At.head _ _ | apply At.tail)) rfl hm ⟨hf.kind, hf.id, hf.sdt, wrap_range .u8 _, hf.af, hf.data⟩ f sa f.data.length c (hR _) rfl hm hf) ?_
                                              | refine RL.c fun12 (fun hs => fsame { f with af := IntKind.u32.wrap (f.af + 1) } a1 f.data.length c1 (Rd.rowh hs (by repeat first | exact At.head _ _ | apply At.tail)) rfl hm ⟨hf.kind, hf.id, hf.sdt, hf.vcid, wrap_range .u32 _, hf.data⟩ f sa f.data.length c (hR _) rfl hm hf) ?_
                                              | refine RL.c fun12 (fun hs => fsame { f with data := f.data ++ [0] } a0_ (f.data.length + 1) c0_ (Rd.rowh hs (by repeat first | exact At.head _ _ | apply At.tail)) (by simp) (by omega) ⟨hf.kind, hf.id, hf.sdt, hf.vcid, hf.af, (hf.data.append (Byte.one (by omega) (by omega)))⟩ f sa f.data.length c (hR _) rfl hm hf) ?_
                                            rintro _ _ ⟨rfl, e⟩; obtain rfl := e.symm
                                            refine RL.p T ?_
                                            refine RL.p T ?_
                                            refine RL.nil _ _ _ _ ?_
                                            refine hK40 _ _ _ ?_
                                            refine SW.ret ?_
                                            refine retQ.rr (H) ?_
                                            clear hK40 K40 hK39 K39 hK37 K37 hK35 K35 hK33 K33 hK31 K31 hK29 K29 hK27 K27 hK25 K25 hK23 K23 hK22 K22 hK21 K21 hK19 K19 hK18 K18 hK15 K15 hK14 K14 hK13 K13 hK12 K12 hK11 K11 hK9 K9 hK8 K8 hK7 K7 hK5 K5 hK4 K4 hK2 K2 hK1 K1 hK0 K0
                                            first
                                              | exact ⟨rfl, rfl⟩
                                              | (exfalso; grind)
                                              | (refine ⟨boolE ?_, rfl⟩
                                                 refine (congrArg (fun b => !b) (sameF_ne ?_)).trans rfl
                                                 intro e
                                                 first
                                                   | (exact absurd (congrArg Frm.kind e) (wrap_ne (k := .i64) hf.kind.1 hf.kind.2))
                                                   | (exact absurd (congrArg Frm.id e) (wrap_ne (k := .u32) hf.id.1 hf.id.2))
                                                   | (exact absurd (congrArg Frm.sdt e) (wrap_ne (k := .u8) hf.sdt.1 hf.sdt.2))
                                                   | (exact absurd (congrArg Frm.vcid e) (wrap_ne (k := .u8) hf.vcid.1 hf.vcid.2))
                                                   | (exact absurd (congrArg Frm.af e) (wrap_ne (k := .u32) hf.af.1 hf.af.2))
                                                   | (have h := congrArg Frm.ext e; revert h; dsimp only; cases f.ext <;> intro h <;> cases h; done)
                                                   | (have h := congrArg Frm.rtr e; revert h; dsimp only; cases f.rtr <;> intro h <;> cases h; done)
                                                   | (have h := congrArg Frm.brs e; revert h; dsimp only; cases f.brs <;> intro h <;> cases h; done)
                                                   | (have h := congrArg Frm.esi e; revert h; dsimp only; cases f.esi <;> intro h <;> cases h; done)
                                                   | (have h := congrArg Frm.sec e; revert h; dsimp only; cases f.sec <;> intro h <;> cases h; done)
                                                   | (have h := congrArg (fun g => g.data.length) e; simp at h; done))
                                            )
                                         ·skip
                                          first
                                           | (exfalso; first | omega | contradiction | (simp at hc0; done))
                                           | (
                                            refine SW.seq_k fun K41 hK41 => ?_
                                            refine SW.region _ _ _ _ ?_
                                            refine RL.p T ?_
                                            refine RL.p T ?_
                                            refine RL.nil _ _ _ _ ?_
                                            refine hK41 _ _ _ ?_
                                            refine SW.cs (fun hc14 => ?_) (fun hc14 => ?_)
                                            ·skip
                                             first
                                              | (exfalso; first | omega | contradiction | (simp at hc0; done))
                                              | (
                                               refine SW.region _ _ _ _ ?_
                                               refine RL.p T ?_
                                               refine RL.lv1 T ?_
                                               first | refine RL.arK ?_ | refine RL.p T ?_
                                               refine RL.p T ?_
                                               refine RL.sv1 T ?_
                                               refine RL.nil _ _ _ _ ?_
                                               refine hK21 _ _ _ ?_
                                               refine SW.seq_k fun K42 hK42 => ?_
                                               refine SW.region _ _ _ _ ?_
                                               refine RL.lvN T rfl rfl rfl rfl rfl (by repeat first | exact At.head _ _ | assumption | exact At.put (by assumption) _ | apply At.tail | apply At.app) (by exact (rfl : _ = [_, _, _, _, _, _, _, _, _, _, _])) ?_
                                               refine RL.lvN T rfl rfl rfl rfl rfl (by repeat first | exact At.head _ _ | assumption | exact At.put (by assumption) _ | apply At.tail | apply At.app) (by exact (rfl : _ = [_, _, _, _, _, _, _, _, _, _, _])) ?_
                                               first
                                                 | refine RL.c fun12 (fun hs => fsame { f with kind := IntKind.i64.wrap (f.kind + 1) } a1 f.data.length c1 (Rd.rowh hs (by repeat first | exact At.head _ _ | apply At.tail)) rfl hm ⟨wrap_range .i64 _, hf.id, hf.sdt, hf.vcid, hf.af, hf.data⟩ f sa f.data.length c (hR _) rfl hm hf) ?_
                                                 | refine RL.c fun12 (fun hs => fsame { f with id := IntKind.u32.wrap (f.id + 1) } a1 f.data.length c1 (Rd.rowh hs (by repeat first | exact At.head _ _ | apply At.tail)) rfl hm ⟨hf.kind, wrap_range .u32 _, hf.sdt, hf.vcid, hf.af, hf.data⟩ f sa f.data.length c (hR _) rfl hm hf) ?_
                                                 | refine RL.c fun12 (fun hs => fsame { f with ext := !f.ext } a1 f.data.length c1 (Rd.rowh hs (by repeat first | exact At.head _ _ | apply At.tail)) rfl hm ⟨hf.kind, hf.id, hf.sdt, hf.vcid, hf.af, hf.data⟩ f sa f.data.length c (hR _) rfl hm hf) ?_
                                                 | refine RL.c fun12 (fun hs => fsame { f with rtr := !f.rtr } a1 f.data.length c1 (Rd.rowh hs (by repeat first | exact At.head _ _ | apply At.tail)) rfl hm ⟨hf.kind, hf.id, hf.sdt, hf.vcid, hf.af, hf.data⟩ f sa f.data.length c (hR _) rfl hm hf) ?_
                                                 | refine RL.c fun12 (fun hs => fsame { f with brs := !f.brs } a1 f.data.length c1 (Rd.rowh hs (by repeat first | exact At.head _ _ | apply At.tail)) rfl hm ⟨hf.kind, hf.id, hf.sdt, hf.vcid, hf.af, hf.data⟩ f sa f.data.length c (hR _) rfl hm hf) ?_
                                                 | refine RL.c fun12 (fun hs => fsame { f with esi := !f.esi } a1 f.data.length c1 (Rd.rowh hs (by repeat first | exact At.head _ _ | apply At.tail)) rfl hm ⟨hf.kind, hf.id, hf.sdt, hf.vcid, hf.af, hf.data⟩ f sa f.data.length c (hR _) rfl hm hf) ?_
                                                 | refine RL.c fun12 (fun hs => fsame { f with sec := !f.sec } a1 f.data.length c1 (Rd.rowh hs (by repeat first | exact At.head _ _ | apply At.tail)) rfl hm ⟨hf.kind, hf.id, hf.sdt, hf.vcid, hf.af, hf.data⟩ f sa f.data.length c (hR _) rfl hm hf) ?_
                                                 | refine RL.c fun12 (fun hs => fsame { f with sdt := IntKind.u8.wrap (f.sdt + 1) } a1 f.data.length c1 (Rd.rowh hs (by repeat first | exact At.head _ _ | apply At.tail)) rfl hm ⟨hf.kind, hf.id, wrap_range .u8 _, hf.vcid, hf.af, hf.data⟩ f sa f.data.length c (hR _) rfl hm hf) ?_
                                                 | refine RL.c fun12 (fun hs => fsame { f with vcid := IntKind.u8.wrap (f.vcid + 1) } a1 f.data.length c1 (Rd.rowh hs (by repeat first | exact At.head _ _ | apply At.tail)) rfl hm ⟨hf.kind, hf.id, hf.sdt, wrap_range .u8 _, hf.af, hf.data⟩ f sa f.data.length c (hR _) rfl hm hf) ?_
                                                 | refine RL.c fun12 (fun hs => fsame { f with af := IntKind.u32.wrap (f.af + 1) } a1 f.data.length c1 (Rd.rowh hs (by repeat first | exact At.head _ _ | apply At.tail)) rfl hm ⟨hf.kind, hf.id, hf.sdt, hf.vcid, wrap_range .u32 _, hf.data⟩ f sa f.data.length c (hR _) rfl hm hf) ?_
                                                 | refine RL.c fun12 (fun hs => fsame { f with data := f.data ++ [0] } a0_ (f.data.length + 1) c0_ (Rd.rowh hs (by repeat first | exact At.head _ _ | apply At.tail)) (by simp) (by omega) ⟨hf.kind, hf.id, hf.sdt, hf.vcid, hf.af, (hf.data.append (Byte.one (by omega) (by omega)))⟩ f sa f.data.length c (hR _) rfl hm hf) ?_
                                               rintro _ _ ⟨rfl, e⟩; obtain rfl := e.symm
                                               refine RL.p T ?_
                                               refine RL.p T ?_
                                               refine RL.nil _ _ _ _ ?_
                                               refine hK42 _ _ _ ?_
                                               refine SW.ret ?_
                                               refine retQ.rr (H) ?_
                                               clear hK42 K42 hK41 K41 hK39 K39 hK37 K37 hK35 K35 hK33 K33 hK31 K31 hK29 K29 hK27 K27 hK25 K25 hK23 K23 hK22 K22 hK21 K21 hK19 K19 hK18 K18 hK15 K15 hK14 K14 hK13 K13 hK12 K12 hK11 K11 hK9 K9 hK8 K8 hK7 K7 hK5 K5 hK4 K4 hK2 K2 hK1 K1 hK0 K0
                                               first
                                                 | exact ⟨rfl, rfl⟩
                                                 | (exfalso; grind)
                                                 | (refine ⟨boolE ?_, rfl⟩
                                                    refine (congrArg (fun b => !b) (sameF_ne ?_)).trans rfl
                                                    intro e
                                                    first
                                                      | (exact absurd (congrArg Frm.kind e) (wrap_ne (k := .i64) hf.kind.1 hf.kind.2))
                                                      | (exact absurd (congrArg Frm.id e) (wrap_ne (k := .u32) hf.id.1 hf.id.2))
                                                      | (exact absurd (congrArg Frm.sdt e) (wrap_ne (k := .u8) hf.sdt.1 hf.sdt.2))
                                                      | (exact absurd (congrArg Frm.vcid e) (wrap_ne (k := .u8) hf.vcid.1 hf.vcid.2))
                                                      | (exact absurd (congrArg Frm.af e) (wrap_ne (k := .u32) hf.af.1 hf.af.2))
                                                      | (have h := congrArg Frm.ext e; revert h; dsimp only; cases f.ext <;> intro h <;> cases h; done)
                                                      | (have h := congrArg Frm.rtr e; revert h; dsimp only; cases f.rtr <;> intro h <;> cases h; done)
                                                      | (have h := congrArg Frm.brs e; revert h; dsimp only; cases f.brs <;> intro h <;> cases h; done)
                                                      | (have h := congrArg Frm.esi e; revert h; dsimp only; cases f.esi <;> intro h <;> cases h; done)
                                                      | (have h := congrArg Frm.sec e; revert h; dsimp only; cases f.sec <;> intro h <;> cases h; done)
                                                      | (have h := congrArg (fun g => g.data.length) e; simp at h; done))
                                               )
                                            ·skip
                                             first
                                              | (exfalso; first | omega | contradiction | (simp at hc0; done))
                                              | (
                                               refine SW.seq_k fun K43 hK43 => ?_
                                               refine SW.region _ _ _ _ ?_
                                               refine RL.p T ?_
                                               refine RL.p T ?_
                                               refine RL.nil _ _ _ _ ?_
                                               refine hK43 _ _ _ ?_
                                               refine SW.cs (fun hc15 => ?_) (fun hc15 => ?_)
                                               ·skip
                                                first
                                                 | (exfalso; first | omega | contradiction | (simp at hc0; done))
                                                 | (
                                                  refine SW.region _ _ _ _ ?_
                                                  refine RL.p T ?_
                                                  refine RL.lv1 T ?_
                                                  refine RL.bs T rfl rfl rfl (by exact (rfl : _ = some [_])) (fun b130_3 => ?_)
                                                  first | refine RL.apI1 (ki := .u8) T (fun a0_ c0_ => ?_) | refine RL.apI (ki := .u8) T (fun a0_ c0_ => ?_) | refine RL.apI (ki := .u8) (xs := []) T (fun a0_ c0_ => ?_)
                                                  refine RL.p T ?_
                                                  refine RL.sv1 T ?_
                                                  refine RL.nil _ _ _ _ ?_
                                                  refine hK21 _ _ _ ?_
                                                  refine SW.seq_k fun K44 hK44 => ?_
                                                  refine SW.region _ _ _ _ ?_
                                                  refine RL.lvN T rfl rfl rfl rfl rfl (by repeat first | exact At.head _ _ | assumption | exact At.put (by assumption) _ | apply At.tail | apply At.app) (by exact (rfl : _ = [_, _, _, _, _, _, _, _, _, _, _])) ?_
                                                  refine RL.lvN T rfl rfl rfl rfl rfl (by repeat first | exact At.head _ _ | assumption | exact At.put (by assumption) _ | apply At.tail | apply At.app) (by exact (rfl : _ = [_, _, _, _, _, _, _, _, _, _, _])) ?_
                                                  first
                                                    | refine RL.c fun12 (fun hs => fsame { f with kind := IntKind.i64.wrap (f.kind + 1) } a1 f.data.length c1 (Rd.rowh hs (by repeat first | exact At.head _ _ | apply At.tail)) rfl hm ⟨wrap_range .i64 _, hf.id, hf.sdt, hf.vcid, hf.af, hf.data⟩ f sa f.data.length c (hR _) rfl hm hf) ?_
                                                    | refine RL.c fun12 (fun hs => fsame { f with id := IntKind.u32.wrap (f.id + 1) } a1 f.data.length c1 (Rd.rowh hs (by repeat first | exact At.head _ _ | apply At.tail)) rfl hm ⟨hf.kind, wrap_range .u32 _, hf.sdt, hf.vcid, hf.af, hf.data⟩ f sa f.data.length c (hR _) rfl hm hf) ?_
                                                    | refine RL.c fun12 (fun hs => fsame { f with ext := !f.ext } a1 f.data.length c1 (Rd.rowh hs (by repeat first | exact At.head _ _ | apply At.tail)) rfl hm ⟨hf.kind, hf.id, hf.sdt, hf.vcid, hf.af, hf.data⟩ f sa f.data.length c (hR _) rfl hm hf) ?_
                                                    | refine RL.c fun12 (fun hs => fsame { f with rtr := !f.rtr } a1 f.data.length c1 (Rd.rowh hs (by repeat first | exact At.head _ _ | apply At.tail)) rfl hm ⟨hf.kind, hf.id, hf.sdt, hf.vcid, hf.af, hf.data⟩ f sa f.data.length c (hR _) rfl hm hf) ?_
                                                    | refine RL.c fun12 (fun hs => fsame { f with brs := !f.brs } a1 f.data.length c1 (Rd.rowh hs (by repeat first | exact At.head _ _ | apply At.tail)) rfl hm ⟨hf.kind, hf.id, hf.sdt, hf.vcid, hf.af, hf.data⟩ f sa f.data.length c (hR _) rfl hm hf) ?_
                                                    | refine RL.c fun12 (fun hs => fsame { f with esi := !f.esi } a1 f.data.length c1 (Rd.rowh hs (by repeat first | exact At.head _ _ | apply At.tail)) rfl hm ⟨hf.kind, hf.id, hf.sdt, hf.vcid, hf.af, hf.data⟩ f sa f.data.length c (hR _) rfl hm hf) ?_
                                                    | refine RL.c fun12 (fun hs => fsame { f with sec := !f.sec } a1 f.data.length c1 (Rd.rowh hs (by repeat first | exact At.head _ _ | apply At.tail)) rfl hm ⟨hf.kind, hf.id, hf.sdt, hf.vcid, hf.af, hf.data⟩ f sa f.data.length c (hR _) rfl hm hf) ?_
                                                    | refine RL.c fun12 (fun hs => fsame { f with sdt := IntKind.u8.wrap (f.sdt + 1) } a1 f.data.length c1 (Rd.rowh hs (by repeat first | exact At.head _ _ | apply At.tail)) rfl hm ⟨hf.kind, hf.id, wrap_range .u8 _, hf.vcid, hf.af, hf.data⟩ f sa f.data.length c (hR _) rfl hm hf) ?_
                                                    | refine RL.c fun12 (fun hs => fsame { f with vcid := IntKind.u8.wrap (f.vcid + 1) } a1 f.data.length c1 (Rd.rowh hs (by repeat first | exact At.head _ _ | apply At.tail)) rfl hm ⟨hf.kind, hf.id, hf.sdt, wrap_range .u8 _, hf.af, hf.data⟩ f sa f.data.length c (hR _) rfl hm hf) ?_
                                                    | refine RL.c fun12 (fun hs => fsame { f with af := IntKind.u32.wrap (f.af + 1) } a1 f.data.length c1 (Rd.rowh hs (by repeat first | exact At.head _ _ | apply At.tail)) rfl hm ⟨hf.kind, hf.id, hf.sdt, hf.vcid, wrap_range .u32 _, hf.data⟩ f sa f.data.length c (hR _) rfl hm hf) ?_
                                                    | refine RL.c fun12 (fun hs => fsame { f with data := f.data ++ [0] } a0_ (f.data.length + 1) c0_ (Rd.rowh hs (by repeat first | exact At.head _ _ | apply At.tail)) (by simp) (by omega) ⟨hf.kind, hf.id, hf.sdt, hf.vcid, hf.af, (hf.data.append (Byte.one (by omega) (by omega)))⟩ f sa f.data.length c (hR _) rfl hm hf) ?_
                                                  rintro _ _ ⟨rfl, e⟩; obtain rfl := e.symm
                                                  refine RL.p T ?_
                                                  refine RL.p T ?_
                                                  refine RL.nil _ _ _ _ ?_
                                                  refine hK44 _ _ _ ?_
                                                  refine SW.ret ?_
                                                  refine retQ.rr (H) ?_
                                                  clear hK44 K44 hK43 K43 hK41 K41 hK39 K39 hK37 K37 hK35 K35 hK33 K33 hK31 K31 hK29 K29 hK27 K27 hK25 K25 hK23 K23 hK22 K22 hK21 K21 hK19 K19 hK18 K18 hK15 K15 hK14 K14 hK13 K13 hK12 K12 hK11 K11 hK9 K9 hK8 K8 hK7 K7 hK5 K5 hK4 K4 hK2 K2 hK1 K1 hK0 K0
                                                  first
                                                    | exact ⟨rfl, rfl⟩
                                                    | (exfalso; grind)
                                                    | (refine ⟨boolE ?_, rfl⟩
                                                       refine (congrArg (fun b => !b) (sameF_ne ?_)).trans rfl
                                                       intro e
                                                       first
                                                         | (exact absurd (congrArg Frm.kind e) (wrap_ne (k := .i64) hf.kind.1 hf.kind.2))
                                                         | (exact absurd (congrArg Frm.id e) (wrap_ne (k := .u32) hf.id.1 hf.id.2))
                                                         | (exact absurd (congrArg Frm.sdt e) (wrap_ne (k := .u8) hf.sdt.1 hf.sdt.2))
                                                         | (exact absurd (congrArg Frm.vcid e) (wrap_ne (k := .u8) hf.vcid.1 hf.vcid.2))
                                                         | (exact absurd (congrArg Frm.af e) (wrap_ne (k := .u32) hf.af.1 hf.af.2))
                                                         | (have h := congrArg Frm.ext e; revert h; dsimp only; cases f.ext <;> intro h <;> cases h; done)
                                                         | (have h := congrArg Frm.rtr e; revert h; dsimp only; cases f.rtr <;> intro h <;> cases h; done)
                                                         | (have h := congrArg Frm.brs e; revert h; dsimp only; cases f.brs <;> intro h <;> cases h; done)
                                                         | (have h := congrArg Frm.esi e; revert h; dsimp only; cases f.esi <;> intro h <;> cases h; done)
                                                         | (have h := congrArg Frm.sec e; revert h; dsimp only; cases f.sec <;> intro h <;> cases h; done)
                                                         | (have h := congrArg (fun g => g.data.length) e; simp at h; done))
                                                  )
                                               ·skip
                                                first
                                                 | (exfalso; first | omega | contradiction | (simp at hc0; done))
                                                 | (
                                                  refine SW.skip ?_
                                                  refine hK21 _ _ _ ?_
                                                  refine SW.seq_k fun K45 hK45 => ?_
                                                  refine SW.region _ _ _ _ ?_
                                                  refine RL.lvN T rfl rfl rfl rfl rfl (by repeat first | exact At.head _ _ | assumption | exact At.put (by assumption) _ | apply At.tail | apply At.app) (by exact (rfl : _ = [_, _, _, _, _, _, _, _, _, _, _])) ?_
                                                  refine RL.lvN T rfl rfl rfl rfl rfl (by repeat first | exact At.head _ _ | assumption | exact At.put (by assumption) _ | apply At.tail | apply At.app) (by exact (rfl : _ = [_, _, _, _, _, _, _, _, _, _, _])) ?_
                                                  first
                                                    | refine RL.c fun12 (fun hs => fsame { f with kind := IntKind.i64.wrap (f.kind + 1) } a1 f.data.length c1 (Rd.rowh hs (by repeat first | exact At.head _ _ | apply At.tail)) rfl hm ⟨wrap_range .i64 _, hf.id, hf.sdt, hf.vcid, hf.af, hf.data⟩ f sa f.data.length c (hR _) rfl hm hf) ?_
                                                    | refine RL.c fun12 (fun hs => fsame { f with id := IntKind.u32.wrap (f.id + 1) } a1 f.data.length c1 (Rd.rowh hs (by repeat first | exact At.head _ _ | apply At.tail)) rfl hm ⟨hf.kind, wrap_range .u32 _, hf.sdt, hf.vcid, hf.af, hf.data⟩ f sa f.data.length c (hR _) rfl hm hf) ?_
                                                    | refine RL.c fun12 (fun hs => fsame { f with ext := !f.ext } a1 f.data.length c1 (Rd.rowh hs (by repeat first | exact At.head _ _ | apply At.tail)) rfl hm ⟨hf.kind, hf.id, hf.sdt, hf.vcid, hf.af, hf.data⟩ f sa f.data.length c (hR _) rfl hm hf) ?_
                                                    | refine RL.c fun12 (fun hs => fsame { f with rtr := !f.rtr } a1 f.data.length c1 (Rd.rowh hs (by repeat first | exact At.head _ _ | apply At.tail)) rfl hm ⟨hf.kind, hf.id, hf.sdt, hf.vcid, hf.af, hf.data⟩ f sa f.data.length c (hR _) rfl hm hf) ?_
                                                    | refine RL.c fun12 (fun hs => fsame { f with brs := !f.brs } a1 f.data.length c1 (Rd.rowh hs (by repeat first | exact At.head _ _ | apply At.tail)) rfl hm ⟨hf.kind, hf.id, hf.sdt, hf.vcid, hf.af, hf.data⟩ f sa f.data.length c (hR _) rfl hm hf) ?_
                                                    | refine RL.c fun12 (fun hs => fsame { f with esi := !f.esi } a1 f.data.length c1 (Rd.rowh hs (by repeat first | exact At.head _ _ | apply At.tail)) rfl hm ⟨hf.kind, hf.id, hf.sdt, hf.vcid, hf.af, hf.data⟩ f sa f.data.length c (hR _) rfl hm hf) ?_
                                                    | refine RL.c fun12 (fun hs => fsame { f with sec := !f.sec } a1 f.data.length c1 (Rd.rowh hs (by repeat first | exact At.head _ _ | apply At.tail)) rfl hm ⟨hf.kind, hf.id, hf.sdt, hf.vcid, hf.af, hf.data⟩ f sa f.data.length c (hR _) rfl hm hf) ?_
                                                    | refine RL.c fun12 (fun hs => fsame { f with sdt := IntKind.u8.wrap (f.sdt + 1) } a1 f.data.length c1 (Rd.rowh hs (by repeat first | exact At.head _ _ | apply At.tail)) rfl hm ⟨hf.kind, hf.id, wrap_range .u8 _, hf.vcid, hf.af, hf.data⟩ f sa f.data.length c (hR _) rfl hm hf) ?_
                                                    | refine RL.c fun12 (fun hs => fsame { f with vcid := IntKind.u8.wrap (f.vcid + 1) } a1 f.data.length c1 (Rd.rowh hs (by repeat first | exact At.head _ _ | apply At.tail)) rfl hm ⟨hf.kind, hf.id, hf.sdt, wrap_range .u8 _, hf.af, hf.data⟩ f sa f.data.length c (hR _) rfl hm hf) ?_
                                                    | refine RL.c fun12 (fun hs => fsame { f with af := IntKind.u32.wrap (f.af + 1) } a1 f.data.length c1 (Rd.rowh hs (by repeat first | exact At.head _ _ | apply At.tail)) rfl hm ⟨hf.kind, hf.id, hf.sdt, hf.vcid, wrap_range .u32 _, hf.data⟩ f sa f.data.length c (hR _) rfl hm hf) ?_
                                                    | refine RL.c fun12 (fun hs => fsame { f with data := f.data ++ [0] } a0_ (f.data.length + 1) c0_ (Rd.rowh hs (by repeat first | exact At.head _ _ | apply At.tail)) (by simp) (by omega) ⟨hf.kind, hf.id, hf.sdt, hf.vcid, hf.af, (hf.data.append (Byte.one (by omega) (by omega)))⟩ f sa f.data.length c (hR _) rfl hm hf) ?_
                                                  rintro _ _ ⟨rfl, e⟩; obtain rfl := e.symm
                                                  refine RL.p T ?_
                                                  refine RL.p T ?_
                                                  refine RL.nil _ _ _ _ ?_
                                                  refine hK45 _ _ _ ?_
                                                  refine SW.ret ?_
                                                  refine retQ.rr (H) ?_
                                                  clear hK45 K45 hK43 K43 hK41 K41 hK39 K39 hK37 K37 hK35 K35 hK33 K33 hK31 K31 hK29 K29 hK27 K27 hK25 K25 hK23 K23 hK22 K22 hK21 K21 hK19 K19 hK18 K18 hK15 K15 hK14 K14 hK13 K13 hK12 K12 hK11 K11 hK9 K9 hK8 K8 hK7 K7 hK5 K5 hK4 K4 hK2 K2 hK1 K1 hK0 K0
                                                  first
                                                    | exact ⟨rfl, rfl⟩
                                                    | (exfalso; grind)
                                                    | (refine ⟨boolE ?_, rfl⟩
                                                       refine (congrArg (fun b => !b) (sameF_ne ?_)).trans rfl
                                                       intro e
                                                       first
                                                         | (exact absurd (congrArg Frm.kind e) (wrap_ne (k := .i64) hf.kind.1 hf.kind.2))
                                                         | (exact absurd (congrArg Frm.id e) (wrap_ne (k := .u32) hf.id.1 hf.id.2))
                                                         | (exact absurd (congrArg Frm.sdt e) (wrap_ne (k := .u8) hf.sdt.1 hf.sdt.2))
                                                         | (exact absurd (congrArg Frm.vcid e) (wrap_ne (k := .u8) hf.vcid.1 hf.vcid.2))
                                                         | (exact absurd (congrArg Frm.af e) (wrap_ne (k := .u32) hf.af.1 hf.af.2))
                                                         | (have h := congrArg Frm.ext e; revert h; dsimp only; cases f.ext <;> intro h <;> cases h; done)
                                                         | (have h := congrArg Frm.rtr e; revert h; dsimp only; cases f.rtr <;> intro h <;> cases h; done)
                                                         | (have h := congrArg Frm.brs e; revert h; dsimp only; cases f.brs <;> intro h <;> cases h; done)
                                                         | (have h := congrArg Frm.esi e; revert h; dsimp only; cases f.esi <;> intro h <;> cases h; done)
                                                         | (have h := congrArg Frm.sec e; revert h; dsimp only; cases f.sec <;> intro h <;> cases h; done)
                                                         | (have h := congrArg (fun g => g.data.length) e; simp at h; done))
                                                  )
                                               )
                                            )
                                         )
                                      )
                                   )
                                )
                             )
                          )
                       )
                    )
                 )
              )
          )
       )
    )
theorem frameCopies {w0 : World} {H : List Chunk} (f : Frm) (sa : Option Addr) (n c : Nat) (hR : ∀ H, Rd w0 H sa n c 1 (f.data.map (.int .u8))) (hn : n = f.data.length) (hm : n ≤ 140737488351232) (hf : FrOk f) (wh : Int) (w0' : 0 ≤ wh) (w1' : wh ≤ 255) : SC Try.prog w0 8 #[FA f sa n c, .int .u8 wh] H (fun v H' => v = .bool true ∧ H' = H) := by
  subst hn
  exact fcopies f sa c hR hm hf wh w0' w1'
end Go.Proofs.Ythmbophlgaihoaa.M
