import Derived.Test.YtgdnanfnmaafoaaProg
import Derived.Test.YtgdnanfnmaafoaaFE15
set_option linter.unusedVariables false
set_option linter.unusedSimpArgs false
namespace Go.Proofs.Ytgdnanfnmaafoaa.M
open Go Go.Sep Go.Proofs
set_option maxRecDepth 10000
set_option maxHeartbeats 2000000
theorem filterMasks {w0 : World} {H : List Chunk} (f : Frm) (sa : Option Addr) (n c : Nat) (hR : ∀ H, Rd w0 H sa n c 1 (f.data.map (.int .u8))) (hn : n = f.data.length) (hm : n ≤ 140737488351232) (hf : FrOk f) (g : Frm) (sb : Option Addr) (m d : Nat) (hS : ∀ H, Rd w0 H sb m d 1 (g.data.map (.int .u8))) (hn2 : m = g.data.length) (hm2 : m ≤ 140737488351232) (hg : FrOk g) (q : Rul) (hq : RuOk q) : SC Try.prog w0 5 #[FA f sa n c, FA g sb m d, RuA q] H (fun v H' => v = .bool true ∧ H' = H) := by
 refine SC.enter Try.func5 rfl (Nat.le_of_ble_eq_true rfl) ?_
 refine SW.seq_k fun K0 hK0 => ?_
 refine SW.region _ _ _ _ ?_
 refine RL.s ?_
 refine NV.box rfl (by exact (rfl : _ = [_, _, _, _, _, _, _, _, _, _, _])) ?_
 intro b3_0
 refine RL.s ?_
 refine NV.box rfl (by exact (rfl : _ = [_, _, _, _, _, _, _, _, _, _, _])) ?_
 intro b4_1
 refine RL.s ?_
 refine NV.box rfl (by exact (rfl : _ = [_, _, _, _, _, _, _, _, _, _])) ?_
 intro b5_2
 refine RL.p T ?_
 refine RL.nil _ _ _ _ ?_
 refine hK0 _ _ _ ?_
 refine SW.seq_k fun K1 hK1 => ?_
 refine SW.seq_k fun K2 hK2 => ?_
 refine SW.region _ _ _ _ ?_
 refine RL.c fun9 (fun hs => alive) ?_
 rintro _ _ ⟨rfl, e⟩; obtain rfl := e.symm
 refine RL.p T ?_
 refine RL.nil _ _ _ _ ?_
 refine hK2 _ _ _ ?_
 refine SW.cs (fun hc0 => ?_) (fun hc0 => ?_)
 ·skip
  first
   | (exfalso; first | omega | contradiction | (simp at *; done))
   | (
    refine SW.seq_k fun K3 hK3 => ?_
    refine SW.region _ _ _ _ ?_
    refine RL.p T ?_
    refine RL.nil _ _ _ _ ?_
    refine hK3 _ _ _ ?_
    refine SW.ret ?_
    refine retQ.rr (H) ?_
    clear hK3 K3 hK2 K2 hK1 K1 hK0 K0
    first
      | exact ⟨rfl, rfl⟩
      | skip
    refine ⟨boolE ?_, rfl⟩
    first
      | (by_cases h : chkF f = 0
         · simp [h]
         · rw [fits_chk h]; rfl)
      | (have m1 := mask_own (q := q) (f := f) (by omega)
         have m2 := mask_same (q := q) (f := f) (g := g) (by omega) (by omega)
         have m3 := mask_whole (f := f) (g := g) (by omega) (by omega) hf hg
         rw [m1, m3]
         change (_ && decide (sameH f g = sameH f g) && (!sameH f g || _)) = true
         cases hs : sameH f g with
         | true => rw [m2 hs]; rfl
         | false => rfl)
    )
 ·skip
  first
   | (exfalso; first | omega | contradiction | (simp at *; done))
   | (
    refine SW.skip ?_
    refine hK1 _ _ _ ?_
    refine SW.seq_k fun K4 hK4 => ?_
    refine SW.seq_k fun K5 hK5 => ?_
    refine SW.region _ _ _ _ ?_
    refine RL.lvN T rfl rfl rfl rfl rfl (by repeat first | exact At.head _ _ | assumption | exact At.put (by assumption) _ | apply At.tail | apply At.app) (by exact (rfl : _ = [_, _, _, _, _, _, _, _, _, _, _])) ?_
    refine RL.c fun10 (fun hs => fcheck f sa n c (hR _) hn hm hf) ?_
    rintro _ _ ⟨rfl, e⟩; obtain rfl := e.symm
    refine RL.p T ?_
    refine RL.p T ?_
    refine RL.join (fr1 := ?_) 3 15 false [16, 17, 18] (fun hs0 hj => ?_) ?_ ?_
    rotate_left
    ·have hs0j := hs0
     try simp only [decide_eq_true_eq, Bool.not_eq_true', decide_eq_false_iff_not, Bool.not_eq_false', Int.not_lt, Int.not_le, Int.toNat_natCast, Bool.and_eq_true, Bool.or_eq_true, Bool.and_eq_false_iff, Bool.or_eq_false_iff] at hs0
     refine RL.lvN T rfl rfl rfl rfl rfl (by repeat first | exact At.head _ _ | assumption | exact At.put (by assumption) _ | apply At.tail | apply At.app) (by exact (rfl : _ = [_, _, _, _, _, _, _, _, _, _, _])) ?_
     refine RL.c fun10 (fun hs => fcheck g sb m d (hS _) hn2 hm2 hg) ?_
     rintro _ _ ⟨rfl, e⟩; obtain rfl := e.symm
     refine RL.p T ?_
     exact hj
    ·repeat first | exact Mx.refl | exact Mx.mix | refine Mx.put rfl ?_ | refine Mx.upd rfl ?_ | refine Mx.updl rfl ?_ | refine Mx.fin rfl ?_ | refine Mx.inner rfl ?_ | refine Mx.none ?_
    refine RL.or ?_
    refine RL.nil _ _ _ _ ?_
    refine hK5 _ _ _ ?_
    refine SW.cs (fun hc1 => ?_) (fun hc1 => ?_)
    ·skip
     first
      | (exfalso; first | omega | contradiction | (simp at *; done))
      | (
       refine SW.seq_k fun K6 hK6 => ?_
       refine SW.region _ _ _ _ ?_
       refine RL.s ?_
       first | refine NV.buildc T rfl (rfl : _ = some [_, _, _, _, _, _, _, _, _, _]) ?_ | refine NV.buildz T rfl (rfl : _ = some [_, _, _, _, _, _, _, _, _, _]) ?_ | refine NV.pure T (rfl : _ = some (Value.agg #[_, _, _, _, _, _, _, _, _, _])) ?_
       refine RL.lvN T rfl rfl rfl rfl rfl (by repeat first | exact At.head _ _ | assumption | exact At.put (by assumption) _ | apply At.tail | apply At.app) (by exact (rfl : _ = [_, _, _, _, _, _, _, _, _, _, _])) ?_
       refine RL.c fun17 (fun hs => qfits (q7) (q7_ok) f sa n c (hR _) hn hm hf) ?_
       rintro _ _ ⟨rfl, e⟩; obtain rfl := e.symm
       refine RL.p T ?_
       refine RL.p T ?_
       refine RL.join (fr1 := ?_) 3 24 false [25, 26, 27] (fun hs1 hj => ?_) ?_ ?_
       rotate_left
       ·have hs1j := hs1
        try simp only [decide_eq_true_eq, Bool.not_eq_true', decide_eq_false_iff_not, Bool.not_eq_false', Int.not_lt, Int.not_le, Int.toNat_natCast, Bool.and_eq_true, Bool.or_eq_true, Bool.and_eq_false_iff, Bool.or_eq_false_iff] at hs1
        refine RL.lvN T rfl rfl rfl rfl rfl (by repeat first | exact At.head _ _ | assumption | exact At.put (by assumption) _ | apply At.tail | apply At.app) (by exact (rfl : _ = [_, _, _, _, _, _, _, _, _, _, _])) ?_
        refine RL.c fun10 (fun hs => fcheck f sa n c (hR _) hn hm hf) ?_
        rintro _ _ ⟨rfl, e⟩; obtain rfl := e.symm
        refine RL.p T ?_
        exact hj
       ·repeat first | exact Mx.refl | exact Mx.mix | refine Mx.put rfl ?_ | refine Mx.upd rfl ?_ | refine Mx.updl rfl ?_ | refine Mx.fin rfl ?_ | refine Mx.inner rfl ?_ | refine Mx.none ?_
       refine RL.or ?_
       refine RL.p T ?_
       refine RL.nil _ _ _ _ ?_
       refine hK6 _ _ _ ?_
       refine SW.ret ?_
       refine retQ.rr (H) ?_
       clear hK6 K6 hK5 K5 hK4 K4 hK2 K2 hK1 K1 hK0 K0
       first
         | exact ⟨rfl, rfl⟩
         | skip
       refine ⟨boolE ?_, rfl⟩
       first
         | (by_cases h : chkF f = 0
            · simp [h]
            · rw [fits_chk h]; rfl)
         | (have m1 := mask_own (q := q) (f := f) (by omega)
            have m2 := mask_same (q := q) (f := f) (g := g) (by omega) (by omega)
            have m3 := mask_whole (f := f) (g := g) (by omega) (by omega) hf hg
            rw [m1, m3]
            change (_ && decide (sameH f g = sameH f g) && (!sameH f g || _)) = true
            cases hs : sameH f g with
            | true => rw [m2 hs]; rfl
            | false => rfl)
       )
    ·skip
     first
      | (exfalso; first | omega | contradiction | (simp at *; done))
      | (
       refine SW.skip ?_
       refine hK4 _ _ _ ?_
       refine SW.seq_k fun K7 hK7 => ?_
       have hkf := chk_kind (f := f) (by omega)
       refine SW.region _ _ _ _ ?_
       refine RL.p T ?_
       refine RL.lv1 T ?_
       first | refine RL.ar ?_ | refine RL.p T ?_
       first | refine RL.cv T ?_ | refine RL.p T ?_ | refine RL.ts T ?_
       refine RL.q (QV.shift rfl rfl rfl (by omega) (.inl ⟨rfl, rfl⟩)) ?_
       rw [shk_def]
       refine RL.p T ?_
       refine RL.lv1 T ?_
       refine RL.p T ?_
       refine RL.lv1 T ?_
       refine RL.p T ?_
       refine RL.lv1 T ?_
       refine RL.p T ?_
       refine RL.lv1 T ?_
       refine RL.p T ?_
       refine RL.lv1 T ?_
       refine RL.p T ?_
       refine RL.lv1 T ?_
       refine RL.p T ?_
       refine RL.lv1 T ?_
       refine RL.p T ?_
       refine RL.lv1 T ?_
       refine RL.s ?_
       first | refine NV.buildc T rfl (rfl : _ = some [_, _, _, _, _, _, _, _, _, _]) ?_ | refine NV.buildz T rfl (rfl : _ = some [_, _, _, _, _, _, _, _, _, _]) ?_ | refine NV.pure T (rfl : _ = some (Value.agg #[_, _, _, _, _, _, _, _, _, _])) ?_
       refine RL.s ?_
       refine NV.alloc T rfl rfl rfl (by exact (rfl : _ = [_, _, _, _, _, _, _, _, _, _])) ?_
       intro b7_3
       refine RL.s ?_
       first
         | refine NV.store_var1 T rfl rfl rfl rfl (by conv => lhs; whnf) rfl (by repeat first | exact At.head _ _ | assumption | exact At.put (by assumption) _ | apply At.tail | apply At.app) rfl (by exact (rfl : _ = [_, _, _, _, _, _, _, _, _, _])) ?_
         | refine NV.store_var T rfl rfl rfl (by exact (rfl : _ = [_, _, _, _, _, _, _, _, _, _])) rfl rfl (by repeat first | exact At.head _ _ | assumption | exact At.put (by assumption) _ | apply At.tail | apply At.app) (Nat.le_of_ble_eq_true rfl) (by exact (rfl : _ = [_, _, _, _, _, _, _, _, _, _])) ?_
         | refine NV.store_elem T rfl rfl rfl rfl (by conv => lhs; whnf) rfl (by repeat first | exact At.head _ _ | assumption | exact At.put (by assumption) _ | apply At.tail | apply At.app) (by omega) ?_
       refine RL.nil _ _ _ _ ?_
       refine hK7 _ _ _ ?_
       refine SW.seq_k fun K8 hK8 => ?_
       refine SW.region _ _ _ _ ?_
       refine RL.lvN T rfl rfl rfl rfl rfl (by repeat first | exact At.head _ _ | assumption | exact At.put (by assumption) _ | apply At.tail | apply At.app) (by exact (rfl : _ = [_, _, _, _, _, _, _, _, _, _])) ?_
       refine RL.s ?_
       refine NV.alloc T rfl rfl rfl (by exact (rfl : _ = [_, _, _, _, _, _, _, _, _, _])) ?_
       intro b8_4
       refine RL.s ?_
       first
         | refine NV.store_var1 T rfl rfl rfl rfl (by conv => lhs; whnf) rfl (by repeat first | exact At.head _ _ | assumption | exact At.put (by assumption) _ | apply At.tail | apply At.app) rfl (by exact (rfl : _ = [_, _, _, _, _, _, _, _, _, _])) ?_
         | refine NV.store_var T rfl rfl rfl (by exact (rfl : _ = [_, _, _, _, _, _, _, _, _, _])) rfl rfl (by repeat first | exact At.head _ _ | assumption | exact At.put (by assumption) _ | apply At.tail | apply At.app) (Nat.le_of_ble_eq_true rfl) (by exact (rfl : _ = [_, _, _, _, _, _, _, _, _, _])) ?_
         | refine NV.store_elem T rfl rfl rfl rfl (by conv => lhs; whnf) rfl (by repeat first | exact At.head _ _ | assumption | exact At.put (by assumption) _ | apply At.tail | apply At.app) (by omega) ?_
       refine RL.nil _ _ _ _ ?_
       refine hK8 _ _ _ ?_
       refine SW.seq_k fun K9 hK9 => ?_
       refine SW.region _ _ _ _ ?_
       refine RL.p T ?_
       refine RL.sv1 T ?_
       refine RL.p T ?_
       refine RL.sv1 T ?_
       refine RL.p T ?_
       refine RL.sv1 T ?_
       refine RL.p T ?_
       refine RL.sv1 T ?_
       refine RL.nil _ _ _ _ ?_
       refine hK9 _ _ _ ?_
       refine SW.seq_k fun K10 hK10 => ?_
       refine SW.region _ _ _ _ ?_
       refine RL.p T ?_
       refine RL.lv1 T ?_
       refine RL.p T ?_
       refine RL.lv1 T ?_
       refine RL.p T ?_
       refine RL.p T ?_
       refine RL.join (fr1 := ?_) 5 61 true [62, 63, 64, 65, 66] (fun hs2 hj => ?_) ?_ ?_
       rotate_left
       ·have hs2j := hs2
        try simp only [decide_eq_true_eq, Bool.not_eq_true', decide_eq_false_iff_not, Bool.not_eq_false', Int.not_lt, Int.not_le, Int.toNat_natCast, Bool.and_eq_true, Bool.or_eq_true, Bool.and_eq_false_iff, Bool.or_eq_false_iff] at hs2
        refine RL.p T ?_
        refine RL.lv1 T ?_
        refine RL.p T ?_
        refine RL.lv1 T ?_
        refine RL.p T ?_
        exact hj
       ·repeat first | exact Mx.refl | exact Mx.mix | refine Mx.put rfl ?_ | refine Mx.upd rfl ?_ | refine Mx.updl rfl ?_ | refine Mx.fin rfl ?_ | refine Mx.inner rfl ?_ | refine Mx.none ?_
       refine RL.and ?_
       refine RL.p T ?_
       refine RL.join (fr1 := ?_) 5 68 true [69, 70, 71, 72, 73] (fun hs3 hj => ?_) ?_ ?_
       rotate_left
       ·have hs3j := hs3
        try simp only [decide_eq_true_eq, Bool.not_eq_true', decide_eq_false_iff_not, Bool.not_eq_false', Int.not_lt, Int.not_le, Int.toNat_natCast, Bool.and_eq_true, Bool.or_eq_true, Bool.and_eq_false_iff, Bool.or_eq_false_iff] at hs3
        refine RL.p T ?_
        refine RL.lv1 T ?_
        refine RL.p T ?_
        refine RL.lv1 T ?_
        refine RL.p T ?_
        exact hj
       ·repeat first | exact Mx.refl | exact Mx.mix | refine Mx.put rfl ?_ | refine Mx.upd rfl ?_ | refine Mx.updl rfl ?_ | refine Mx.fin rfl ?_ | refine Mx.inner rfl ?_ | refine Mx.none ?_
       refine RL.and ?_
       refine RL.p T ?_
       refine RL.join (fr1 := ?_) 5 75 true [76, 77, 78, 79, 80] (fun hs4 hj => ?_) ?_ ?_
       rotate_left
       ·have hs4j := hs4
        try simp only [decide_eq_true_eq, Bool.not_eq_true', decide_eq_false_iff_not, Bool.not_eq_false', Int.not_lt, Int.not_le, Int.toNat_natCast, Bool.and_eq_true, Bool.or_eq_true, Bool.and_eq_false_iff, Bool.or_eq_false_iff] at hs4
        refine RL.p T ?_
        refine RL.lv1 T ?_
        refine RL.p T ?_
        refine RL.lv1 T ?_
        refine RL.p T ?_
        exact hj
       ·repeat first | exact Mx.refl | exact Mx.mix | refine Mx.put rfl ?_ | refine Mx.upd rfl ?_ | refine Mx.updl rfl ?_ | refine Mx.fin rfl ?_ | refine Mx.inner rfl ?_ | refine Mx.none ?_
       refine RL.and ?_
       refine RL.p T ?_
       refine RL.join (fr1 := ?_) 5 82 true [83, 84, 85, 86, 87] (fun hs5 hj => ?_) ?_ ?_
       rotate_left
       ·have hs5j := hs5
        try simp only [decide_eq_true_eq, Bool.not_eq_true', decide_eq_false_iff_not, Bool.not_eq_false', Int.not_lt, Int.not_le, Int.toNat_natCast, Bool.and_eq_true, Bool.or_eq_true, Bool.and_eq_false_iff, Bool.or_eq_false_iff] at hs5
        refine RL.p T ?_
        refine RL.lv1 T ?_
        refine RL.p T ?_
        refine RL.lv1 T ?_
        refine RL.p T ?_
        exact hj
       ·repeat first | exact Mx.refl | exact Mx.mix | refine Mx.put rfl ?_ | refine Mx.upd rfl ?_ | refine Mx.updl rfl ?_ | refine Mx.fin rfl ?_ | refine Mx.inner rfl ?_ | refine Mx.none ?_
       refine RL.and ?_
       refine RL.p T ?_
       refine RL.nil _ _ _ _ ?_
       refine hK10 _ _ _ ?_
       refine SW.seq_k fun K11 hK11 => ?_
       refine SW.region _ _ _ _ ?_
       refine RL.lvN T rfl rfl rfl rfl rfl (by repeat first | exact At.head _ _ | assumption | exact At.put (by assumption) _ | apply At.tail | apply At.app) (by exact (rfl : _ = [_, _, _, _, _, _, _, _, _, _])) ?_
       refine RL.lvN T rfl rfl rfl rfl rfl (by repeat first | exact At.head _ _ | assumption | exact At.put (by assumption) _ | apply At.tail | apply At.app) (by exact (rfl : _ = [_, _, _, _, _, _, _, _, _, _, _])) ?_
       refine RL.c fun17 (fun hs => qfits (ofM q f) (ofM_ok hq hf) f sa n c (hR _) hn hm hf) ?_
       rintro _ _ ⟨rfl, e⟩; obtain rfl := e.symm
       refine RL.p T ?_
       refine RL.join (fr1 := ?_) 5 92 true [93, 94, 95, 96, 97] (fun hs6 hj => ?_) ?_ ?_
       rotate_left
       ·have hs6j := hs6
        try simp only [decide_eq_true_eq, Bool.not_eq_true', decide_eq_false_iff_not, Bool.not_eq_false', Int.not_lt, Int.not_le, Int.toNat_natCast, Bool.and_eq_true, Bool.or_eq_true, Bool.and_eq_false_iff, Bool.or_eq_false_iff] at hs6
        refine RL.lvN T rfl rfl rfl rfl rfl (by repeat first | exact At.head _ _ | assumption | exact At.put (by assumption) _ | apply At.tail | apply At.app) (by exact (rfl : _ = [_, _, _, _, _, _, _, _, _, _])) ?_
        refine RL.lvN T rfl rfl rfl rfl rfl (by repeat first | exact At.head _ _ | assumption | exact At.put (by assumption) _ | apply At.tail | apply At.app) (by exact (rfl : _ = [_, _, _, _, _, _, _, _, _, _, _])) ?_
        refine RL.c fun17 (fun hs => qfits (ofW f) (ofW_ok hf) g sb m d (hS _) hn2 hm2 hg) ?_
        rintro _ _ ⟨rfl, e⟩; obtain rfl := e.symm
        refine RL.p T ?_
        refine RL.p T ?_
        exact hj
       ·repeat first | exact Mx.refl | exact Mx.mix | refine Mx.put rfl ?_ | refine Mx.upd rfl ?_ | refine Mx.updl rfl ?_ | refine Mx.fin rfl ?_ | refine Mx.inner rfl ?_ | refine Mx.none ?_
       refine RL.and ?_
       refine RL.p T ?_
       refine RL.join (fr1 := ?_) 7 99 true [100, 101, 102, 103, 104, 105, 106] (fun hs7 hj => ?_) ?_ ?_
       rotate_left
       ·have hs7j := hs7
        try simp only [decide_eq_true_eq, Bool.not_eq_true', decide_eq_false_iff_not, Bool.not_eq_false', Int.not_lt, Int.not_le, Int.toNat_natCast, Bool.and_eq_true, Bool.or_eq_true, Bool.and_eq_false_iff, Bool.or_eq_false_iff] at hs7
        refine RL.p T ?_
        refine RL.p T ?_
        refine RL.p T ?_
        refine RL.join (fr1 := ?_) 3 102 false [103, 104, 105] (fun hs8 hj => ?_) ?_ ?_
        rotate_left
        ·have hs8j := hs8
         try simp only [decide_eq_true_eq, Bool.not_eq_true', decide_eq_false_iff_not, Bool.not_eq_false', Int.not_lt, Int.not_le, Int.toNat_natCast, Bool.and_eq_true, Bool.or_eq_true, Bool.and_eq_false_iff, Bool.or_eq_false_iff] at hs8
         refine RL.lvN T rfl rfl rfl rfl rfl (by repeat first | exact At.head _ _ | assumption | exact At.put (by assumption) _ | apply At.tail | apply At.app) (by exact (rfl : _ = [_, _, _, _, _, _, _, _, _, _])) ?_
         refine RL.lvN T rfl rfl rfl rfl rfl (by repeat first | exact At.head _ _ | assumption | exact At.put (by assumption) _ | apply At.tail | apply At.app) (by exact (rfl : _ = [_, _, _, _, _, _, _, _, _, _, _])) ?_
         refine RL.c fun17 (fun hs => qfits (ofM q f) (ofM_ok hq hf) g sb m d (hS _) hn2 hm2 hg) ?_
         rintro _ _ ⟨rfl, e⟩; obtain rfl := e.symm
         exact hj
        ·repeat first | exact Mx.refl | exact Mx.mix | refine Mx.put rfl ?_ | refine Mx.upd rfl ?_ | refine Mx.updl rfl ?_ | refine Mx.fin rfl ?_ | refine Mx.inner rfl ?_ | refine Mx.none ?_
        refine RL.or ?_
        exact hj
       ·repeat first | exact Mx.refl | exact Mx.mix | refine Mx.put rfl ?_ | refine Mx.upd rfl ?_ | refine Mx.updl rfl ?_ | refine Mx.fin rfl ?_ | refine Mx.inner rfl ?_ | refine Mx.none ?_
       refine RL.and ?_
       refine RL.p T ?_
       refine RL.nil _ _ _ _ ?_
       refine hK11 _ _ _ ?_
       refine SW.ret ?_
       refine retQ.rr (H) ?_
       clear hK11 K11 hK10 K10 hK9 K9 hK8 K8 hK7 K7 hK5 K5 hK4 K4 hK2 K2 hK1 K1 hK0 K0
       first
         | exact ⟨rfl, rfl⟩
         | skip
       refine ⟨boolE ?_, rfl⟩
       first
         | (by_cases h : chkF f = 0
            · simp [h]
            · rw [fits_chk h]; rfl)
         | (have m1 := mask_own (q := q) (f := f) (by omega)
            have m2 := mask_same (q := q) (f := f) (g := g) (by omega) (by omega)
            have m3 := mask_whole (f := f) (g := g) (by omega) (by omega) hf hg
            rw [m1, m3]
            change (_ && decide (sameH f g = sameH f g) && (!sameH f g || _)) = true
            cases hs : sameH f g with
            | true => rw [m2 hs]; rfl
            | false => rfl)
       )
    )
end Go.Proofs.Ytgdnanfnmaafoaa.M
