import Derived.Test.YtgdnanfnmaafoaaProg
import Derived.Test.YtgdnanfnmaafoaaFA15
set_option linter.unusedVariables false
set_option linter.unusedSimpArgs false
namespace Go.Proofs.Ytgdnanfnmaafoaa.M
open Go Go.Sep Go.Proofs
set_option maxRecDepth 10000
set_option maxHeartbeats 2000000
def PL : Pl Try.prog where
  is := fun t => Nat.beq t 74
  h := fun t ht => by
    have e := Nat.eq_of_beq_eq_true ht
    subst e
    exact ⟨by kernel_rfl, by kernel_rfl, fun fs hfs f hf => by
      have := Try.underlying74; rw [this] at hfs; cases hfs⟩
theorem bequal {w0 : World} {H : List Chunk} (sa sb : Option Addr) (n c nb cb : Nat) (es fs : List Int) (hR : Rd w0 H sa n c 1 (es.map (.int .u8))) (hS : Rd w0 H sb nb cb 1 (fs.map (.int .u8))) (hb : Byte es) (hb2 : Byte fs) : SC Try.prog w0 34 #[.slice sa n c, .slice sb nb cb] H (fun v H' => v = .bool (decide (es = fs)) ∧ H' = H) := by
 refine SC.enter Try.func34 rfl (Nat.le_of_ble_eq_true rfl) ?_
 refine SW.seq_k fun K0 hK0 => ?_
 refine SW.region _ _ _ _ ?_
 refine RL.p T ?_
 refine RL.nil _ _ _ _ ?_
 refine hK0 _ _ _ ?_
 refine SW.seq_k fun K1 hK1 => ?_
 refine SW.region _ _ _ _ ?_
 refine RL.p T ?_
 first | refine RL.cv T ?_ | refine RL.p T ?_ | refine RL.ts T ?_
 refine RL.p T ?_
 first | refine RL.cv T ?_ | refine RL.p T ?_ | refine RL.ts T ?_
 refine RL.p T ?_
 refine RL.p T ?_
 refine RL.nil _ _ _ _ ?_
 refine hK1 _ _ _ ?_
 refine SW.ret ?_
 refine retQ.rr (H) ?_
 clear hK1 K1 hK0 K0
 refine ⟨boolE ?_, rfl⟩; exact strI_beq hb hb2
theorem fsame {w0 : World} {H : List Chunk} (f : Frm) (sa : Option Addr) (n c : Nat) (hR : Rd w0 H sa n c 1 (f.data.map (.int .u8))) (hn : n = f.data.length) (hm : n ≤ 140737488351232) (hf : FrOk f) (g : Frm) (sb : Option Addr) (m d : Nat) (hS : Rd w0 H sb m d 1 (g.data.map (.int .u8))) (hn2 : m = g.data.length) (hm2 : m ≤ 140737488351232) (hg : FrOk g) : SC Try.prog w0 25 #[FA f sa n c, FA g sb m d] H (fun v H' => v = .bool (sameF f g) ∧ H' = H) := by
 refine SC.enter Try.func25 rfl (Nat.le_of_ble_eq_true rfl) ?_
 refine SW.seq_k fun K0 hK0 => ?_
 refine SW.region _ _ _ _ ?_
 refine RL.s ?_
 refine NV.box rfl (by exact (rfl : _ = [_, _, _, _, _, _, _, _, _, _, _])) ?_
 intro b2_0
 refine RL.s ?_
 refine NV.box rfl (by exact (rfl : _ = [_, _, _, _, _, _, _, _, _, _, _])) ?_
 intro b3_1
 refine RL.p T ?_
 refine RL.nil _ _ _ _ ?_
 refine hK0 _ _ _ ?_
 refine SW.seq_k fun K1 hK1 => ?_
 refine SW.region _ _ _ _ ?_
 refine RL.p T ?_
 refine RL.lv1 T ?_
 refine RL.p T ?_
 refine RL.lv1 T ?_
 refine RL.p T ?_
 refine RL.p T ?_
 refine RL.join (fr1 := ?_) 5 10 true [11, 12, 13, 14, 15] (fun hs0 hj => ?_) ?_ ?_
 rotate_left
 ·have hs0j := hs0
  try simp only [decide_eq_true_eq, Bool.not_eq_true', decide_eq_false_iff_not, Bool.not_eq_false', Int.not_lt, Int.not_le, Int.toNat_natCast, Bool.and_eq_true, Bool.or_eq_true, Bool.and_eq_false_iff, Bool.or_eq_false_iff] at hs0
  refine RL.p T ?_
  refine RL.lv1 T ?_
  refine RL.p T ?_
  refine RL.lv1 T ?_
  refine RL.p T ?_
  exact hj
 ·repeat first | exact Mx.refl | exact Mx.mix | refine Mx.put rfl ?_ | refine Mx.upd rfl ?_ | refine Mx.updl rfl ?_ | refine Mx.fin rfl ?_ | refine Mx.inner rfl ?_ | refine Mx.none ?_
 refine RL.and ?_
 refine RL.p T ?_
 refine RL.join (fr1 := ?_) 23 17 true [18, 19, 20, 21, 22, 23, 24, 25, 26, 27, 28, 29, 30, 31, 32, 33, 34, 35, 36, 37, 38, 39, 40] (fun hs1 hj => ?_) ?_ ?_
 rotate_left
 ·have hs1j := hs1
  try simp only [decide_eq_true_eq, Bool.not_eq_true', decide_eq_false_iff_not, Bool.not_eq_false', Int.not_lt, Int.not_le, Int.toNat_natCast, Bool.and_eq_true, Bool.or_eq_true, Bool.and_eq_false_iff, Bool.or_eq_false_iff] at hs1
  refine RL.p T ?_
  refine RL.lv1 T ?_
  refine RL.p T ?_
  refine RL.lv1 T ?_
  refine RL.p T ?_
  refine RL.lv1 T ?_
  refine RL.p T ?_
  refine RL.lv1 T ?_
  refine RL.p T ?_
  refine RL.lv1 T ?_
  refine RL.s ?_
  first | refine NV.buildc T rfl (rfl : _ = some [_, _, _, _, _]) ?_ | refine NV.pure T (rfl : _ = some (Value.agg #[_, _, _, _, _])) ?_
  refine RL.p T ?_
  refine RL.lv1 T ?_
  refine RL.p T ?_
  refine RL.lv1 T ?_
  refine RL.p T ?_
  refine RL.lv1 T ?_
  refine RL.p T ?_
  refine RL.lv1 T ?_
  refine RL.p T ?_
  refine RL.lv1 T ?_
  refine RL.s ?_
  first | refine NV.buildc T rfl (rfl : _ = some [_, _, _, _, _]) ?_ | refine NV.pure T (rfl : _ = some (Value.agg #[_, _, _, _, _])) ?_
  refine RL.s ?_
  refine NV.eqd T PL rfl rfl rfl Try.eqGuardType74 rfl ?_
  exact hj
 ·repeat first | exact Mx.refl | exact Mx.mix | refine Mx.put rfl ?_ | refine Mx.upd rfl ?_ | refine Mx.updl rfl ?_ | refine Mx.fin rfl ?_ | refine Mx.inner rfl ?_ | refine Mx.none ?_
 refine RL.and ?_
 refine RL.p T ?_
 refine RL.join (fr1 := ?_) 5 42 true [43, 44, 45, 46, 47] (fun hs2 hj => ?_) ?_ ?_
 rotate_left
 ·have hs2j := hs2
  try simp only [decide_eq_true_eq, Bool.not_eq_true', decide_eq_false_iff_not, Bool.not_eq_false', Int.not_lt, Int.not_le, Int.toNat_natCast, Bool.and_eq_true, Bool.or_eq_true, Bool.and_eq_false_iff, Bool.or_eq_false_iff] at hs2
  refine RL.p T ?_
  refine RL.lv1 T ?_
  refine RL.p T ?_
  refine RL.lv1 T ?_
  refine RL.p T ?_
  exact hj
 ·repeat first | exact Mx.refl | exact Mx.mix | refine Mx.put rfl ?_ | refine Mx.upd rfl ?_ | refine Mx.updl rfl ?_ | refine Mx.fin rfl ?_ | refine Mx.inner rfl ?_ | refine Mx.none ?_
 refine RL.and ?_
 refine RL.p T ?_
 refine RL.join (fr1 := ?_) 5 49 true [50, 51, 52, 53, 54] (fun hs3 hj => ?_) ?_ ?_
 rotate_left
 ·have hs3j := hs3
  try simp only [decide_eq_true_eq, Bool.not_eq_true', decide_eq_false_iff_not, Bool.not_eq_false', Int.not_lt, Int.not_le, Int.toNat_natCast, Bool.and_eq_true, Bool.or_eq_true, Bool.and_eq_false_iff, Bool.or_eq_false_iff] at hs3
  refine RL.p T ?_
  refine RL.lv1 T ?_
  refine RL.p T ?_
  refine RL.lv1 T ?_
  refine RL.p T ?_
  exact hj
 ·repeat first | exact Mx.refl | exact Mx.mix | refine Mx.put rfl ?_ | refine Mx.upd rfl ?_ | refine Mx.updl rfl ?_ | refine Mx.fin rfl ?_ | refine Mx.inner rfl ?_ | refine Mx.none ?_
 refine RL.and ?_
 refine RL.p T ?_
 refine RL.join (fr1 := ?_) 5 56 true [57, 58, 59, 60, 61] (fun hs4 hj => ?_) ?_ ?_
 rotate_left
 ·have hs4j := hs4
  try simp only [decide_eq_true_eq, Bool.not_eq_true', decide_eq_false_iff_not, Bool.not_eq_false', Int.not_lt, Int.not_le, Int.toNat_natCast, Bool.and_eq_true, Bool.or_eq_true, Bool.and_eq_false_iff, Bool.or_eq_false_iff] at hs4
  refine RL.p T ?_
  refine RL.lv1 T ?_
  refine RL.p T ?_
  refine RL.lv1 T ?_
  refine RL.p T ?_
  exact hj
 ·repeat first | exact Mx.refl | exact Mx.mix | refine Mx.put rfl ?_ | refine Mx.upd rfl ?_ | refine Mx.updl rfl ?_ | refine Mx.fin rfl ?_ | refine Mx.inner rfl ?_ | refine Mx.none ?_
 refine RL.and ?_
 refine RL.p T ?_
 refine RL.join (fr1 := ?_) 5 63 true [64, 65, 66, 67, 68] (fun hs5 hj => ?_) ?_ ?_
 rotate_left
 ·have hs5j := hs5
  try simp only [decide_eq_true_eq, Bool.not_eq_true', decide_eq_false_iff_not, Bool.not_eq_false', Int.not_lt, Int.not_le, Int.toNat_natCast, Bool.and_eq_true, Bool.or_eq_true, Bool.and_eq_false_iff, Bool.or_eq_false_iff] at hs5
  refine RL.p T ?_
  refine RL.lv1 T ?_
  refine RL.p T ?_
  refine RL.lv1 T ?_
  refine RL.c fun34 (fun hs => bequal sa sb n c m d f.data g.data hR.cons.cons hS.cons.cons hf.data hg.data) ?_
  rintro _ _ ⟨rfl, e⟩; obtain rfl := e.symm
  exact hj
 ·repeat first | exact Mx.refl | exact Mx.mix | refine Mx.put rfl ?_ | refine Mx.upd rfl ?_ | refine Mx.updl rfl ?_ | refine Mx.fin rfl ?_ | refine Mx.inner rfl ?_ | refine Mx.none ?_
 refine RL.and ?_
 refine RL.p T ?_
 refine RL.nil _ _ _ _ ?_
 refine hK1 _ _ _ ?_
 refine SW.ret ?_
 refine retQ.rr (H) ?_
 clear hK1 K1 hK0 K0
 refine ⟨boolE ?_, rfl⟩
 unfold sameF
 simp only [Bool.and_assoc, Bool.and_true]
theorem fbare {w0 : World} {H : List Chunk} (f : Frm) (sa : Option Addr) (n c : Nat) (hR : Rd w0 H sa n c 1 (f.data.map (.int .u8))) (hn : n = f.data.length) (hm : n ≤ 140737488351232) (hf : FrOk f) : SC Try.prog w0 26 #[FA f sa n c] H (fun v H' => v = FA (bareF f) none 0 0 ∧ H' = H) := by
 refine SC.enter Try.func26 rfl (Nat.le_of_ble_eq_true rfl) ?_
 refine SW.seq_k fun K0 hK0 => ?_
 refine SW.region _ _ _ _ ?_
 refine RL.s ?_
 refine NV.box rfl (by exact (rfl : _ = [_, _, _, _, _, _, _, _, _, _, _])) ?_
 intro b1_0
 refine RL.s ?_
 refine NV.alloc T rfl rfl rfl (by exact (rfl : _ = [_, _, _, _, _, _, _, _, _, _, _])) ?_
 intro b2_1
 refine RL.nil _ _ _ _ ?_
 refine hK0 _ _ _ ?_
 refine SW.seq_k fun K1 hK1 => ?_
 refine SW.seq_k fun K2 hK2 => ?_
 refine SW.region _ _ _ _ ?_
 refine RL.p T ?_
 refine RL.lv1 T ?_
 refine RL.nil _ _ _ _ ?_
 refine hK2 _ _ _ ?_
 refine SW.block ?_
 refine SW.seq_k fun K3 hK3 => ?_
 refine SW.region _ _ _ _ ?_
 refine RL.p T ?_
 refine RL.p T ?_
 refine RL.nil _ _ _ _ ?_
 refine hK3 _ _ _ ?_
 refine SW.cs (fun hc0 => ?_) (fun hc0 => ?_)
 ·skip
  refine SW.region _ _ _ _ ?_
  refine RL.p T ?_
  refine RL.sv1 T ?_
  refine RL.p T ?_
  refine RL.sv1 T ?_
  refine RL.nil _ _ _ _ ?_
  refine hK1 _ _ _ ?_
  refine SW.seq_k fun K4 hK4 => ?_
  refine SW.region _ _ _ _ ?_
  refine RL.p T ?_
  refine RL.sv1 T ?_
  refine RL.p T ?_
  refine RL.sv1 T ?_
  refine RL.nil _ _ _ _ ?_
  refine hK4 _ _ _ ?_
  refine SW.seq_k fun K5 hK5 => ?_
  refine SW.region _ _ _ _ ?_
  refine RL.lvN T rfl rfl rfl rfl rfl (by repeat first | exact At.head _ _ | assumption | exact At.put (by assumption) _ | apply At.tail | apply At.app) (by exact (rfl : _ = [_, _, _, _, _, _, _, _, _, _, _])) ?_
  refine RL.s ?_
  first
    | refine NV.store_var1 T rfl rfl rfl rfl (by conv => lhs; whnf) rfl (by repeat first | exact At.head _ _ | assumption | exact At.put (by assumption) _ | apply At.tail | apply At.app) rfl (by exact (rfl : _ = [_, _, _, _, _, _, _, _, _, _, _])) ?_
    | refine NV.store_var T rfl rfl rfl (by exact (rfl : _ = [_, _, _, _, _, _, _, _, _, _, _])) rfl rfl (by repeat first | exact At.head _ _ | assumption | exact At.put (by assumption) _ | apply At.tail | apply At.app) (Nat.le_of_ble_eq_true rfl) (by exact (rfl : _ = [_, _, _, _, _, _, _, _, _, _, _])) ?_
    | refine NV.store_elem T rfl rfl rfl rfl (by conv => lhs; whnf) rfl (by repeat first | exact At.head _ _ | assumption | exact At.put (by assumption) _ | apply At.tail | apply At.app) (by omega) ?_
  refine RL.nil _ _ _ _ ?_
  refine hK5 _ _ _ ?_
  refine SW.ret ?_
  refine retQ.ret (H' := H) (by first | exact RVs.var1 T rfl rfl rfl (by repeat first | exact At.head _ _ | assumption | exact At.put (by assumption) _ | apply At.tail | apply At.app) rfl RVs.nil | exact RVs.varN T rfl rfl rfl rfl (by repeat first | exact At.head _ _ | assumption | exact At.put (by assumption) _ | apply At.tail | apply At.app) (by exact (rfl : _ = [_, _, _, _, _, _, _, _, _, _, _])) rfl RVs.nil) (fun w hw => Sat.sub (by repeat first | exact List.Sublist.refl _ | apply List.Sublist.cons_cons | apply List.Sublist.cons | exact List.sublist_append_right _ _ | refine List.Sublist.trans ?_ (List.sublist_append_right _ _)) hw) ?_
  clear hK5 K5 hK4 K4 hK3 K3 hK2 K2 hK1 K1 hK0 K0
  refine ⟨?_, rfl⟩
  unfold bareF
  first
    | (rw [if_pos (by omega)]; rfl)
    | (rw [if_neg (by omega), if_pos (by omega)]; rfl)
    | (rw [if_neg (by omega), if_neg (by omega), if_pos (by omega)]; rfl)
    | (rw [if_neg (by omega), if_neg (by omega), if_neg (by omega)]; rfl)
 ·skip
  refine SW.seq_k fun K6 hK6 => ?_
  refine SW.region _ _ _ _ ?_
  refine RL.p T ?_
  refine RL.p T ?_
  refine RL.nil _ _ _ _ ?_
  refine hK6 _ _ _ ?_
  refine SW.cs (fun hc1 => ?_) (fun hc1 => ?_)
  ·skip
   refine SW.region _ _ _ _ ?_
   refine RL.p T ?_
   refine RL.sv1 T ?_
   refine RL.p T ?_
   refine RL.sv1 T ?_
   refine RL.nil _ _ _ _ ?_
   refine hK1 _ _ _ ?_
   refine SW.seq_k fun K7 hK7 => ?_
   refine SW.region _ _ _ _ ?_
   refine RL.p T ?_
   refine RL.sv1 T ?_
   refine RL.p T ?_
   refine RL.sv1 T ?_
   refine RL.nil _ _ _ _ ?_
   refine hK7 _ _ _ ?_
   refine SW.seq_k fun K8 hK8 => ?_
   refine SW.region _ _ _ _ ?_
   refine RL.lvN T rfl rfl rfl rfl rfl (by repeat first | exact At.head _ _ | assumption | exact At.put (by assumption) _ | apply At.tail | apply At.app) (by exact (rfl : _ = [_, _, _, _, _, _, _, _, _, _, _])) ?_
   refine RL.s ?_
   first
     | refine NV.store_var1 T rfl rfl rfl rfl (by conv => lhs; whnf) rfl (by repeat first | exact At.head _ _ | assumption | exact At.put (by assumption) _ | apply At.tail | apply At.app) rfl (by exact (rfl : _ = [_, _, _, _, _, _, _, _, _, _, _])) ?_
     | refine NV.store_var T rfl rfl rfl (by exact (rfl : _ = [_, _, _, _, _, _, _, _, _, _, _])) rfl rfl (by repeat first | exact At.head _ _ | assumption | exact At.put (by assumption) _ | apply At.tail | apply At.app) (Nat.le_of_ble_eq_true rfl) (by exact (rfl : _ = [_, _, _, _, _, _, _, _, _, _, _])) ?_
     | refine NV.store_elem T rfl rfl rfl rfl (by conv => lhs; whnf) rfl (by repeat first | exact At.head _ _ | assumption | exact At.put (by assumption) _ | apply At.tail | apply At.app) (by omega) ?_
   refine RL.nil _ _ _ _ ?_
   refine hK8 _ _ _ ?_
   refine SW.ret ?_
   refine retQ.ret (H' := H) (by first | exact RVs.var1 T rfl rfl rfl (by repeat first | exact At.head _ _ | assumption | exact At.put (by assumption) _ | apply At.tail | apply At.app) rfl RVs.nil | exact RVs.varN T rfl rfl rfl rfl (by repeat first | exact At.head _ _ | assumption | exact At.put (by assumption) _ | apply At.tail | apply At.app) (by exact (rfl : _ = [_, _, _, _, _, _, _, _, _, _, _])) rfl RVs.nil) (fun w hw => Sat.sub (by repeat first | exact List.Sublist.refl _ | apply List.Sublist.cons_cons | apply List.Sublist.cons | exact List.sublist_append_right _ _ | refine List.Sublist.trans ?_ (List.sublist_append_right _ _)) hw) ?_
   clear hK8 K8 hK7 K7 hK6 K6 hK3 K3 hK2 K2 hK1 K1 hK0 K0
   refine ⟨?_, rfl⟩
   unfold bareF
   first
     | (rw [if_pos (by omega)]; rfl)
     | (rw [if_neg (by omega), if_pos (by omega)]; rfl)
     | (rw [if_neg (by omega), if_neg (by omega), if_pos (by omega)]; rfl)
     | (rw [if_neg (by omega), if_neg (by omega), if_neg (by omega)]; rfl)
  ·skip
   refine SW.seq_k fun K9 hK9 => ?_
   refine SW.region _ _ _ _ ?_
   refine RL.p T ?_
   refine RL.p T ?_
   refine RL.nil _ _ _ _ ?_
   refine hK9 _ _ _ ?_
   refine SW.cs (fun hc2 => ?_) (fun hc2 => ?_)
   ·skip
    refine SW.region _ _ _ _ ?_
    refine RL.p T ?_
    refine RL.sv1 T ?_
    refine RL.p T ?_
    refine RL.sv1 T ?_
    refine RL.p T ?_
    refine RL.sv1 T ?_
    refine RL.p T ?_
    refine RL.sv1 T ?_
    refine RL.nil _ _ _ _ ?_
    refine hK1 _ _ _ ?_
    refine SW.seq_k fun K10 hK10 => ?_
    refine SW.region _ _ _ _ ?_
    refine RL.p T ?_
    refine RL.sv1 T ?_
    refine RL.p T ?_
    refine RL.sv1 T ?_
    refine RL.nil _ _ _ _ ?_
    refine hK10 _ _ _ ?_
    refine SW.seq_k fun K11 hK11 => ?_
    refine SW.region _ _ _ _ ?_
    refine RL.lvN T rfl rfl rfl rfl rfl (by repeat first | exact At.head _ _ | assumption | exact At.put (by assumption) _ | apply At.tail | apply At.app) (by exact (rfl : _ = [_, _, _, _, _, _, _, _, _, _, _])) ?_
    refine RL.s ?_
    first
      | refine NV.store_var1 T rfl rfl rfl rfl (by conv => lhs; whnf) rfl (by repeat first | exact At.head _ _ | assumption | exact At.put (by assumption) _ | apply At.tail | apply At.app) rfl (by exact (rfl : _ = [_, _, _, _, _, _, _, _, _, _, _])) ?_
      | refine NV.store_var T rfl rfl rfl (by exact (rfl : _ = [_, _, _, _, _, _, _, _, _, _, _])) rfl rfl (by repeat first | exact At.head _ _ | assumption | exact At.put (by assumption) _ | apply At.tail | apply At.app) (Nat.le_of_ble_eq_true rfl) (by exact (rfl : _ = [_, _, _, _, _, _, _, _, _, _, _])) ?_
      | refine NV.store_elem T rfl rfl rfl rfl (by conv => lhs; whnf) rfl (by repeat first | exact At.head _ _ | assumption | exact At.put (by assumption) _ | apply At.tail | apply At.app) (by omega) ?_
    refine RL.nil _ _ _ _ ?_
    refine hK11 _ _ _ ?_
    refine SW.ret ?_
    refine retQ.ret (H' := H) (by first | exact RVs.var1 T rfl rfl rfl (by repeat first | exact At.head _ _ | assumption | exact At.put (by assumption) _ | apply At.tail | apply At.app) rfl RVs.nil | exact RVs.varN T rfl rfl rfl rfl (by repeat first | exact At.head _ _ | assumption | exact At.put (by assumption) _ | apply At.tail | apply At.app) (by exact (rfl : _ = [_, _, _, _, _, _, _, _, _, _, _])) rfl RVs.nil) (fun w hw => Sat.sub (by repeat first | exact List.Sublist.refl _ | apply List.Sublist.cons_cons | apply List.Sublist.cons | exact List.sublist_append_right _ _ | refine List.Sublist.trans ?_ (List.sublist_append_right _ _)) hw) ?_
    clear hK11 K11 hK10 K10 hK9 K9 hK6 K6 hK3 K3 hK2 K2 hK1 K1 hK0 K0
    refine ⟨?_, rfl⟩
    unfold bareF
    first
      | (rw [if_pos (by omega)]; rfl)
      | (rw [if_neg (by omega), if_pos (by omega)]; rfl)
      | (rw [if_neg (by omega), if_neg (by omega), if_pos (by omega)]; rfl)
      | (rw [if_neg (by omega), if_neg (by omega), if_neg (by omega)]; rfl)
   ·skip
    refine SW.skip ?_
    refine hK1 _ _ _ ?_
    refine SW.seq_k fun K12 hK12 => ?_
    refine SW.region _ _ _ _ ?_
    refine RL.p T ?_
    refine RL.sv1 T ?_
    refine RL.p T ?_
    refine RL.sv1 T ?_
    refine RL.nil _ _ _ _ ?_
    refine hK12 _ _ _ ?_
    refine SW.seq_k fun K13 hK13 => ?_
    refine SW.region _ _ _ _ ?_
    refine RL.lvN T rfl rfl rfl rfl rfl (by repeat first | exact At.head _ _ | assumption | exact At.put (by assumption) _ | apply At.tail | apply At.app) (by exact (rfl : _ = [_, _, _, _, _, _, _, _, _, _, _])) ?_
    refine RL.s ?_
    first
      | refine NV.store_var1 T rfl rfl rfl rfl (by conv => lhs; whnf) rfl (by repeat first | exact At.head _ _ | assumption | exact At.put (by assumption) _ | apply At.tail | apply At.app) rfl (by exact (rfl : _ = [_, _, _, _, _, _, _, _, _, _, _])) ?_
      | refine NV.store_var T rfl rfl rfl (by exact (rfl : _ = [_, _, _, _, _, _, _, _, _, _, _])) rfl rfl (by repeat first | exact At.head _ _ | assumption | exact At.put (by assumption) _ | apply At.tail | apply At.app) (Nat.le_of_ble_eq_true rfl) (by exact (rfl : _ = [_, _, _, _, _, _, _, _, _, _, _])) ?_
      | refine NV.store_elem T rfl rfl rfl rfl (by conv => lhs; whnf) rfl (by repeat first | exact At.head _ _ | assumption | exact At.put (by assumption) _ | apply At.tail | apply At.app) (by omega) ?_
    refine RL.nil _ _ _ _ ?_
    refine hK13 _ _ _ ?_
    refine SW.ret ?_
    refine retQ.ret (H' := H) (by first | exact RVs.var1 T rfl rfl rfl (by repeat first | exact At.head _ _ | assumption | exact At.put (by assumption) _ | apply At.tail | apply At.app) rfl RVs.nil | exact RVs.varN T rfl rfl rfl rfl (by repeat first | exact At.head _ _ | assumption | exact At.put (by assumption) _ | apply At.tail | apply At.app) (by exact (rfl : _ = [_, _, _, _, _, _, _, _, _, _, _])) rfl RVs.nil) (fun w hw => Sat.sub (by repeat first | exact List.Sublist.refl _ | apply List.Sublist.cons_cons | apply List.Sublist.cons | exact List.sublist_append_right _ _ | refine List.Sublist.trans ?_ (List.sublist_append_right _ _)) hw) ?_
    clear hK13 K13 hK12 K12 hK9 K9 hK6 K6 hK3 K3 hK2 K2 hK1 K1 hK0 K0
    refine ⟨?_, rfl⟩
    unfold bareF
    first
      | (rw [if_pos (by omega)]; rfl)
      | (rw [if_neg (by omega), if_pos (by omega)]; rfl)
      | (rw [if_neg (by omega), if_neg (by omega), if_pos (by omega)]; rfl)
      | (rw [if_neg (by omega), if_neg (by omega), if_neg (by omega)]; rfl)
theorem fcheck {w0 : World} {H : List Chunk} (f : Frm) (sa : Option Addr) (n c : Nat) (hR : Rd w0 H sa n c 1 (f.data.map (.int .u8))) (hn : n = f.data.length) (hm : n ≤ 140737488351232) (hf : FrOk f) : SC Try.prog w0 10 #[FA f sa n c] H (fun v H' => v = .int .i64 (chkF f) ∧ H' = H) := by
 refine SC.enter Try.func10 rfl (Nat.le_of_ble_eq_true rfl) ?_
 refine SW.seq_k fun K0 hK0 => ?_
 refine SW.region _ _ _ _ ?_
 refine RL.s ?_
 refine NV.box rfl (by exact (rfl : _ = [_, _, _, _, _, _, _, _, _, _, _])) ?_
 intro b1_0
 refine RL.p T ?_
 refine RL.nil _ _ _ _ ?_
 refine hK0 _ _ _ ?_
 refine SW.seq_k fun K1 hK1 => ?_
 refine SW.region _ _ _ _ ?_
 refine RL.p T ?_
 refine RL.nil _ _ _ _ ?_
 refine hK1 _ _ _ ?_
 refine SW.seq_k fun K2 hK2 => ?_
 refine SW.seq_k fun K3 hK3 => ?_
 refine SW.region _ _ _ _ ?_
 refine RL.p T ?_
 refine RL.lv1 T ?_
 refine RL.nil _ _ _ _ ?_
 refine hK3 _ _ _ ?_
 refine SW.cs (fun hc0 => ?_) (fun hc0 => ?_)
 ·skip
  refine SW.region _ _ _ _ ?_
  refine RL.p T ?_
  refine RL.nil _ _ _ _ ?_
  refine hK2 _ _ _ ?_
  refine SW.seq_k fun K4 hK4 => ?_
  refine SW.region _ _ _ _ ?_
  refine RL.p T ?_
  refine RL.lv1 T ?_
  refine RL.p T ?_
  refine RL.lv1 T ?_
  refine RL.p T ?_
  refine RL.c fun24 (fun hs => pCode f.kind n (by omega) (by omega)) ?_
  rintro _ _ ⟨rfl, e⟩; obtain rfl := e.symm
  refine RL.p T ?_
  refine RL.p T ?_
  refine RL.p T ?_
  refine RL.p T ?_
  refine RL.p T ?_
  refine RL.nil _ _ _ _ ?_
  refine hK4 _ _ _ ?_
  refine SW.seq_k fun K5 hK5 => ?_
  refine SW.seq_k fun K6 hK6 => ?_
  refine SW.drawQ [(17, 0), (18, 1), (19, 2), (20, 3), (21, 4), (22, 5), (23, 6), (24, 7), (25, 8), (26, 9), (27, 10), (28, 11), (29, 12), (30, 13), (31, 14), (32, 15), (33, 16), (34, 17), (35, 18), (36, 19), (37, 20), (38, 21), (39, 22), (40, 23), (41, 24), (42, 25), (43, 26)] [[], [0], [1, 0], [2, 1, 0], [3, 2, 1, 0], [2, 1, 0], [4, 3, 2, 1, 0, 5], [2, 1, 0, 6, 4, 3, 5], [7, 2, 1, 0, 6, 4, 3, 5], [8, 7, 2, 1, 0, 6, 4, 3, 5], [9, 8, 7, 2, 1, 0, 6, 4, 3, 5], [10, 9, 8, 7, 2, 1, 0, 6, 4, 3, 5], [11, 10, 9, 8, 7, 2, 1, 0, 6, 4, 3, 5], [12, 11, 10, 9, 8, 7, 2, 1, 0, 6, 4, 3, 5], [13, 12, 11, 10, 9, 8, 7, 2, 1, 0, 6, 4, 3, 5], [14, 13, 12, 11, 10, 9, 8, 7, 2, 1, 0, 6, 4, 3, 5], [11, 10, 9, 8, 7, 2, 1, 0, 6, 4, 3, 5, 15, 14, 13, 12], [8, 7, 2, 1, 0, 6, 4, 3, 5, 16, 11, 10, 9, 15, 14, 13, 12], [17, 8, 7, 2, 1, 0, 6, 4, 3, 5, 16, 11, 10, 9, 15, 14, 13, 12], [18, 17, 8, 7, 2, 1, 0, 6, 4, 3, 5, 16, 11, 10, 9, 15, 14, 13, 12], [19, 18, 17, 8, 7, 2, 1, 0, 6, 4, 3, 5, 16, 11, 10, 9, 15, 14, 13, 12], [18, 17, 8, 7, 2, 1, 0, 6, 4, 3, 5, 16, 11, 10, 9, 15, 14, 13, 12], [21, 18, 17, 8, 7, 2, 1, 0, 6, 4, 3, 5, 16, 11, 10, 9, 15, 14, 13, 12], [22, 21, 18, 17, 8, 7, 2, 1, 0, 6, 4, 3, 5, 16, 11, 10, 9, 15, 14, 13, 12], [20, 19, 18, 17, 8, 7, 2, 1, 0, 6, 4, 3, 5, 16, 11, 10, 9, 15, 14, 13, 12, 23, 22, 21], [24, 20, 19, 18, 17, 8, 7, 2, 1, 0, 6, 4, 3, 5, 16, 11, 10, 9, 15, 14, 13, 12, 23, 22, 21], [18, 17, 8, 7, 2, 1, 0, 6, 4, 3, 5, 16, 11, 10, 9, 15, 14, 13, 12, 25, 24, 20, 19, 23, 22, 21]] mixed (by kernel_rfl) (by kernel_rfl) ?_
  refine QL.p T ?_
  refine QL.p T ?_
  refine QL.p T ?_
  refine QL.join (fr1 := ?_) 4 19 false [20, 21, 22, 23] (fun hs0 hj => ?_) ?_ ?_
  rotate_left
  ·have hs0j := hs0
   try simp only [decide_eq_true_eq, Bool.not_eq_true', decide_eq_false_iff_not, Bool.not_eq_false', Int.not_lt, Int.not_le, Int.toNat_natCast, Bool.and_eq_true, Bool.or_eq_true, Bool.and_eq_false_iff, Bool.or_eq_false_iff] at hs0
   refine QL.p T ?_
   refine QL.lv1 T ?_
   refine QL.p T ?_
   refine QL.p T ?_
   exact hj
  ·repeat first | exact Mx.refl | exact Mx.mix | refine Mx.put rfl ?_ | refine Mx.upd rfl ?_ | refine Mx.updl rfl ?_ | refine Mx.fin rfl ?_ | refine Mx.inner rfl ?_ | refine Mx.none ?_
  refine QL.or ?_
  refine QL.p T ?_
  refine QL.join (fr1 := ?_) 8 25 false [26, 27, 28, 29, 30, 31, 32, 33] (fun hs1 hj => ?_) ?_ ?_
  rotate_left
  ·have hs1j := hs1
   try simp only [decide_eq_true_eq, Bool.not_eq_true', decide_eq_false_iff_not, Bool.not_eq_false', Int.not_lt, Int.not_le, Int.toNat_natCast, Bool.and_eq_true, Bool.or_eq_true, Bool.and_eq_false_iff, Bool.or_eq_false_iff] at hs1
   refine QL.p T ?_
   refine QL.lv1 T ?_
   refine QL.p T ?_
   refine QL.join (fr1 := ?_) 4 28 true [29, 30, 31, 32] (fun hs2 hj => ?_) ?_ ?_
   rotate_left
   ·have hs2j := hs2
    try simp only [decide_eq_true_eq, Bool.not_eq_true', decide_eq_false_iff_not, Bool.not_eq_false', Int.not_lt, Int.not_le, Int.toNat_natCast, Bool.and_eq_true, Bool.or_eq_true, Bool.and_eq_false_iff, Bool.or_eq_false_iff] at hs2
    refine QL.p T ?_
    refine QL.lv1 T ?_
    refine QL.p T ?_
    refine QL.p T ?_
    exact hj
   ·repeat first | exact Mx.refl | exact Mx.mix | refine Mx.put rfl ?_ | refine Mx.upd rfl ?_ | refine Mx.updl rfl ?_ | refine Mx.fin rfl ?_ | refine Mx.inner rfl ?_ | refine Mx.none ?_
   refine QL.and ?_
   exact hj
  ·repeat first | exact Mx.refl | exact Mx.mix | refine Mx.put rfl ?_ | refine Mx.upd rfl ?_ | refine Mx.updl rfl ?_ | refine Mx.fin rfl ?_ | refine Mx.inner rfl ?_ | refine Mx.none ?_
  refine QL.or ?_
  refine QL.p T ?_
  refine QL.join (fr1 := ?_) 7 35 false [36, 37, 38, 39, 40, 41, 42] (fun hs3 hj => ?_) ?_ ?_
  rotate_left
  ·have hs3j := hs3
   try simp only [decide_eq_true_eq, Bool.not_eq_true', decide_eq_false_iff_not, Bool.not_eq_false', Int.not_lt, Int.not_le, Int.toNat_natCast, Bool.and_eq_true, Bool.or_eq_true, Bool.and_eq_false_iff, Bool.or_eq_false_iff] at hs3
   refine QL.lvN T rfl rfl rfl rfl rfl (by repeat first | exact At.head _ _ | assumption | exact At.put (by assumption) _ | apply At.tail | apply At.app) (by exact (rfl : _ = [_, _, _, _, _, _, _, _, _, _, _])) ?_
   refine QL.c fun26 (fun hs => fbare f sa n c hR.cons hn hm hf) ?_
   refine QL.p T ?_
   refine QL.lv1 T ?_
   refine QL.step (by first | exact Gd.none rfl | exact Gd.yes rfl rfl | exact Gd.yes rfl (congrArg Value.bool (by assumption))) rfl (by first | exact QV.buildc T rfl (rfl : _ = some [_, _, _, _, _, _, _, _, _, _, _]) | exact pev_sound T (rfl : _ = some (Value.agg #[_, _, _, _, _, _, _, _, _, _, _]))) ?_
   refine QL.c fun25 (fun hs => fsame (bareF f) none 0 0 (by rw [bareF_data]; exact Rd.nilS) (by rw [bareF_data]; rfl) (by omega) (bareF_ok hf) (zeroF f.kind) none 0 0 Rd.nilS rfl (by omega) (zeroF_ok hf)) ?_
   refine QL.p T ?_
   exact hj
  ·repeat first | exact Mx.refl | exact Mx.mix | refine Mx.put rfl ?_ | refine Mx.upd rfl ?_ | refine Mx.updl rfl ?_ | refine Mx.fin rfl ?_ | refine Mx.inner rfl ?_ | refine Mx.none ?_
  refine QL.or ?_
  refine QL.nil ?_
  refine hK6 _ _ _ ?_
  refine SW.cs (fun hc1 => ?_) (fun hc1 => ?_)
  ·skip
   refine SW.seq_k fun K7 hK7 => ?_
   refine SW.region _ _ _ _ ?_
   refine RL.p T ?_
   refine RL.nil _ _ _ _ ?_
   refine hK7 _ _ _ ?_
   refine SW.ret ?_
   refine retQ.rr (H) ?_
   clear hK7 K7 hK6 K6 hK5 K5 hK4 K4 hK3 K3 hK2 K2 hK1 K1 hK0 K0
   subst hn
   refine ⟨intE ?_, rfl⟩
   first
     | exact (chkF_bad (by rw [hc0]; exact hc1)).symm
     | exact (chkF_bad (by rw [hc0]; exact hc2)).symm
     | exact (chkF_good (by rw [hc0]; exact hc1)).symm
     | exact (chkF_good (by rw [hc0]; exact hc2)).symm
  ·skip
   refine SW.skip ?_
   refine hK5 _ _ _ ?_
   refine SW.seq_k fun K8 hK8 => ?_
   refine SW.region _ _ _ _ ?_
   refine RL.p T ?_
   refine RL.nil _ _ _ _ ?_
   refine hK8 _ _ _ ?_
   refine SW.ret ?_
   refine retQ.rr (H) ?_
   clear hK8 K8 hK6 K6 hK5 K5 hK4 K4 hK3 K3 hK2 K2 hK1 K1 hK0 K0
   subst hn
   refine ⟨intE ?_, rfl⟩
   first
     | exact (chkF_bad (by rw [hc0]; exact hc1)).symm
     | exact (chkF_bad (by rw [hc0]; exact hc2)).symm
     | exact (chkF_good (by rw [hc0]; exact hc1)).symm
     | exact (chkF_good (by rw [hc0]; exact hc2)).symm
 ·skip
  refine SW.skip ?_
  refine hK2 _ _ _ ?_
  refine SW.seq_k fun K9 hK9 => ?_
  refine SW.region _ _ _ _ ?_
  refine RL.p T ?_
  refine RL.lv1 T ?_
  refine RL.p T ?_
  refine RL.lv1 T ?_
  refine RL.p T ?_
  refine RL.c fun24 (fun hs => pCode f.kind n (by omega) (by omega)) ?_
  rintro _ _ ⟨rfl, e⟩; obtain rfl := e.symm
  refine RL.p T ?_
  refine RL.p T ?_
  refine RL.p T ?_
  refine RL.p T ?_
  refine RL.p T ?_
  refine RL.nil _ _ _ _ ?_
  refine hK9 _ _ _ ?_
  refine SW.seq_k fun K10 hK10 => ?_
  refine SW.seq_k fun K11 hK11 => ?_
  refine SW.drawQ [(17, 0), (18, 1), (19, 2), (20, 3), (21, 4), (22, 5), (23, 6), (24, 7), (25, 8), (26, 9), (27, 10), (28, 11), (29, 12), (30, 13), (31, 14), (32, 15), (33, 16), (34, 17), (35, 18), (36, 19), (37, 20), (38, 21), (39, 22), (40, 23), (41, 24), (42, 25), (43, 26)] [[], [0], [1, 0], [2, 1, 0], [3, 2, 1, 0], [2, 1, 0], [4, 3, 2, 1, 0, 5], [2, 1, 0, 6, 4, 3, 5], [7, 2, 1, 0, 6, 4, 3, 5], [8, 7, 2, 1, 0, 6, 4, 3, 5], [9, 8, 7, 2, 1, 0, 6, 4, 3, 5], [10, 9, 8, 7, 2, 1, 0, 6, 4, 3, 5], [11, 10, 9, 8, 7, 2, 1, 0, 6, 4, 3, 5], [12, 11, 10, 9, 8, 7, 2, 1, 0, 6, 4, 3, 5], [13, 12, 11, 10, 9, 8, 7, 2, 1, 0, 6, 4, 3, 5], [14, 13, 12, 11, 10, 9, 8, 7, 2, 1, 0, 6, 4, 3, 5], [11, 10, 9, 8, 7, 2, 1, 0, 6, 4, 3, 5, 15, 14, 13, 12], [8, 7, 2, 1, 0, 6, 4, 3, 5, 16, 11, 10, 9, 15, 14, 13, 12], [17, 8, 7, 2, 1, 0, 6, 4, 3, 5, 16, 11, 10, 9, 15, 14, 13, 12], [18, 17, 8, 7, 2, 1, 0, 6, 4, 3, 5, 16, 11, 10, 9, 15, 14, 13, 12], [19, 18, 17, 8, 7, 2, 1, 0, 6, 4, 3, 5, 16, 11, 10, 9, 15, 14, 13, 12], [18, 17, 8, 7, 2, 1, 0, 6, 4, 3, 5, 16, 11, 10, 9, 15, 14, 13, 12], [21, 18, 17, 8, 7, 2, 1, 0, 6, 4, 3, 5, 16, 11, 10, 9, 15, 14, 13, 12], [22, 21, 18, 17, 8, 7, 2, 1, 0, 6, 4, 3, 5, 16, 11, 10, 9, 15, 14, 13, 12], [20, 19, 18, 17, 8, 7, 2, 1, 0, 6, 4, 3, 5, 16, 11, 10, 9, 15, 14, 13, 12, 23, 22, 21], [24, 20, 19, 18, 17, 8, 7, 2, 1, 0, 6, 4, 3, 5, 16, 11, 10, 9, 15, 14, 13, 12, 23, 22, 21], [18, 17, 8, 7, 2, 1, 0, 6, 4, 3, 5, 16, 11, 10, 9, 15, 14, 13, 12, 25, 24, 20, 19, 23, 22, 21]] mixed (by kernel_rfl) (by kernel_rfl) ?_
  refine QL.p T ?_
  refine QL.p T ?_
  refine QL.p T ?_
  refine QL.join (fr1 := ?_) 4 19 false [20, 21, 22, 23] (fun hs4 hj => ?_) ?_ ?_
  rotate_left
  ·have hs4j := hs4
   try simp only [decide_eq_true_eq, Bool.not_eq_true', decide_eq_false_iff_not, Bool.not_eq_false', Int.not_lt, Int.not_le, Int.toNat_natCast, Bool.and_eq_true, Bool.or_eq_true, Bool.and_eq_false_iff, Bool.or_eq_false_iff] at hs4
   refine QL.p T ?_
   refine QL.lv1 T ?_
   refine QL.p T ?_
   refine QL.p T ?_
   exact hj
  ·repeat first | exact Mx.refl | exact Mx.mix | refine Mx.put rfl ?_ | refine Mx.upd rfl ?_ | refine Mx.updl rfl ?_ | refine Mx.fin rfl ?_ | refine Mx.inner rfl ?_ | refine Mx.none ?_
  refine QL.or ?_
  refine QL.p T ?_
  refine QL.join (fr1 := ?_) 8 25 false [26, 27, 28, 29, 30, 31, 32, 33] (fun hs5 hj => ?_) ?_ ?_
  rotate_left
  ·have hs5j := hs5
   try simp only [decide_eq_true_eq, Bool.not_eq_true', decide_eq_false_iff_not, Bool.not_eq_false', Int.not_lt, Int.not_le, Int.toNat_natCast, Bool.and_eq_true, Bool.or_eq_true, Bool.and_eq_false_iff, Bool.or_eq_false_iff] at hs5
   refine QL.p T ?_
   refine QL.lv1 T ?_
   refine QL.p T ?_
   refine QL.join (fr1 := ?_) 4 28 true [29, 30, 31, 32] (fun hs6 hj => ?_) ?_ ?_
   rotate_left
   ·have hs6j := hs6
    try simp only [decide_eq_true_eq, Bool.not_eq_true', decide_eq_false_iff_not, Bool.not_eq_false', Int.not_lt, Int.not_le, Int.toNat_natCast, Bool.and_eq_true, Bool.or_eq_true, Bool.and_eq_false_iff, Bool.or_eq_false_iff] at hs6
    refine QL.p T ?_
    refine QL.lv1 T ?_
    refine QL.p T ?_
    refine QL.p T ?_
    exact hj
   ·repeat first | exact Mx.refl | exact Mx.mix | refine Mx.put rfl ?_ | refine Mx.upd rfl ?_ | refine Mx.updl rfl ?_ | refine Mx.fin rfl ?_ | refine Mx.inner rfl ?_ | refine Mx.none ?_
   refine QL.and ?_
   exact hj
  ·repeat first | exact Mx.refl | exact Mx.mix | refine Mx.put rfl ?_ | refine Mx.upd rfl ?_ | refine Mx.updl rfl ?_ | refine Mx.fin rfl ?_ | refine Mx.inner rfl ?_ | refine Mx.none ?_
  refine QL.or ?_
  refine QL.p T ?_
  refine QL.join (fr1 := ?_) 7 35 false [36, 37, 38, 39, 40, 41, 42] (fun hs7 hj => ?_) ?_ ?_
  rotate_left
  ·have hs7j := hs7
   try simp only [decide_eq_true_eq, Bool.not_eq_true', decide_eq_false_iff_not, Bool.not_eq_false', Int.not_lt, Int.not_le, Int.toNat_natCast, Bool.and_eq_true, Bool.or_eq_true, Bool.and_eq_false_iff, Bool.or_eq_false_iff] at hs7
   refine QL.lvN T rfl rfl rfl rfl rfl (by repeat first | exact At.head _ _ | assumption | exact At.put (by assumption) _ | apply At.tail | apply At.app) (by exact (rfl : _ = [_, _, _, _, _, _, _, _, _, _, _])) ?_
   refine QL.c fun26 (fun hs => fbare f sa n c hR.cons hn hm hf) ?_
   refine QL.p T ?_
   refine QL.lv1 T ?_
   refine QL.step (by first | exact Gd.none rfl | exact Gd.yes rfl rfl | exact Gd.yes rfl (congrArg Value.bool (by assumption))) rfl (by first | exact QV.buildc T rfl (rfl : _ = some [_, _, _, _, _, _, _, _, _, _, _]) | exact pev_sound T (rfl : _ = some (Value.agg #[_, _, _, _, _, _, _, _, _, _, _]))) ?_
   refine QL.c fun25 (fun hs => fsame (bareF f) none 0 0 (by rw [bareF_data]; exact Rd.nilS) (by rw [bareF_data]; rfl) (by omega) (bareF_ok hf) (zeroF f.kind) none 0 0 Rd.nilS rfl (by omega) (zeroF_ok hf)) ?_
   refine QL.p T ?_
   exact hj
  ·repeat first | exact Mx.refl | exact Mx.mix | refine Mx.put rfl ?_ | refine Mx.upd rfl ?_ | refine Mx.updl rfl ?_ | refine Mx.fin rfl ?_ | refine Mx.inner rfl ?_ | refine Mx.none ?_
  refine QL.or ?_
  refine QL.nil ?_
  refine hK11 _ _ _ ?_
  refine SW.cs (fun hc2 => ?_) (fun hc2 => ?_)
  ·skip
   refine SW.seq_k fun K12 hK12 => ?_
   refine SW.region _ _ _ _ ?_
   refine RL.p T ?_
   refine RL.nil _ _ _ _ ?_
   refine hK12 _ _ _ ?_
   refine SW.ret ?_
   refine retQ.rr (H) ?_
   clear hK12 K12 hK11 K11 hK10 K10 hK9 K9 hK3 K3 hK2 K2 hK1 K1 hK0 K0
   subst hn
   refine ⟨intE ?_, rfl⟩
   first
     | exact (chkF_bad (by rw [hc0]; exact hc1)).symm
     | exact (chkF_bad (by rw [hc0]; exact hc2)).symm
     | exact (chkF_good (by rw [hc0]; exact hc1)).symm
     | exact (chkF_good (by rw [hc0]; exact hc2)).symm
  ·skip
   refine SW.skip ?_
   refine hK10 _ _ _ ?_
   refine SW.seq_k fun K13 hK13 => ?_
   refine SW.region _ _ _ _ ?_
   refine RL.p T ?_
   refine RL.nil _ _ _ _ ?_
   refine hK13 _ _ _ ?_
   refine SW.ret ?_
   refine retQ.rr (H) ?_
   clear hK13 K13 hK11 K11 hK10 K10 hK9 K9 hK3 K3 hK2 K2 hK1 K1 hK0 K0
   subst hn
   refine ⟨intE ?_, rfl⟩
   first
     | exact (chkF_bad (by rw [hc0]; exact hc1)).symm
     | exact (chkF_bad (by rw [hc0]; exact hc2)).symm
     | exact (chkF_good (by rw [hc0]; exact hc1)).symm
     | exact (chkF_good (by rw [hc0]; exact hc2)).symm
theorem rfcheck {w0 : World} {H : List Chunk} (f : Frm) (sa : Option Addr) (n c : Nat) (hR : Rd w0 H sa n c 1 (f.data.map (.int .u8))) (hn : n = f.data.length) (hm : n ≤ 140737488351232) (hf : FrOk f) : SC Try.prog w0 31 #[FA f sa n c] H (fun v H' => v = .int .i64 (chkF f) ∧ H' = H) := by
 refine SC.enter Try.func31 rfl (Nat.le_of_ble_eq_true rfl) ?_
 refine SW.seq_k fun K0 hK0 => ?_
 refine SW.region _ _ _ _ ?_
 refine RL.s ?_
 refine NV.box rfl (by exact (rfl : _ = [_, _, _, _, _, _, _, _, _, _, _])) ?_
 intro b1_0
 refine RL.p T ?_
 refine RL.nil _ _ _ _ ?_
 refine hK0 _ _ _ ?_
 refine SW.seq_k fun K1 hK1 => ?_
 refine SW.region _ _ _ _ ?_
 refine RL.lvN T rfl rfl rfl rfl rfl (by repeat first | exact At.head _ _ | assumption | exact At.put (by assumption) _ | apply At.tail | apply At.app) (by exact (rfl : _ = [_, _, _, _, _, _, _, _, _, _, _])) ?_
 refine RL.s ?_
 refine NV.alloc T rfl rfl rfl (by exact (rfl : _ = [_, _, _, _, _, _, _, _, _, _, _])) ?_
 intro b3_1
 refine RL.s ?_
 first
   | refine NV.store_var1 T rfl rfl rfl rfl (by conv => lhs; whnf) rfl (by repeat first | exact At.head _ _ | assumption | exact At.put (by assumption) _ | apply At.tail | apply At.app) rfl (by exact (rfl : _ = [_, _, _, _, _, _, _, _, _, _, _])) ?_
   | refine NV.store_var T rfl rfl rfl (by exact (rfl : _ = [_, _, _, _, _, _, _, _, _, _, _])) rfl rfl (by repeat first | exact At.head _ _ | assumption | exact At.put (by assumption) _ | apply At.tail | apply At.app) (Nat.le_of_ble_eq_true rfl) (by exact (rfl : _ = [_, _, _, _, _, _, _, _, _, _, _])) ?_
   | refine NV.store_elem T rfl rfl rfl rfl (by conv => lhs; whnf) rfl (by repeat first | exact At.head _ _ | assumption | exact At.put (by assumption) _ | apply At.tail | apply At.app) (by omega) ?_
 refine RL.nil _ _ _ _ ?_
 refine hK1 _ _ _ ?_
 refine SW.seq_k fun K2 hK2 => ?_
 refine SW.region _ _ _ _ ?_
 refine RL.p T ?_
 refine RL.sv1 T ?_
 refine RL.nil _ _ _ _ ?_
 refine hK2 _ _ _ ?_
 refine SW.seq_k fun K3 hK3 => ?_
 refine SW.seq_k fun K4 hK4 => ?_
 refine SW.region _ _ _ _ ?_
 refine RL.p T ?_
 refine RL.lv1 T ?_
 refine RL.p T ?_
 refine RL.lv1 T ?_
 refine RL.p T ?_
 refine RL.c fun36 (fun hs => rcode f.kind n (by omega) (by omega)) ?_
 rintro _ _ ⟨rfl, e⟩; obtain rfl := e.symm
 refine RL.p T ?_
 refine RL.p T ?_
 refine RL.p T ?_
 refine RL.p T ?_
 refine RL.p T ?_
 refine RL.nil _ _ _ _ ?_
 refine hK4 _ _ _ ?_
 refine SW.seq_k fun K5 hK5 => ?_
 refine SW.region _ _ _ _ ?_
 refine RL.p T ?_
 refine RL.p T ?_
 refine RL.nil _ _ _ _ ?_
 refine hK5 _ _ _ ?_
 refine SW.cs (fun hc0 => ?_) (fun hc0 => ?_)
 ·skip
  refine SW.seq_k fun K6 hK6 => ?_
  refine SW.region _ _ _ _ ?_
  refine RL.p T ?_
  refine RL.nil _ _ _ _ ?_
  refine hK6 _ _ _ ?_
  refine SW.ret ?_
  try clear e
  refine retQ.rr (H) ?_
  clear hK6 K6 hK5 K5 hK4 K4 hK3 K3 hK2 K2 hK1 K1 hK0 K0
  subst hn
  refine ⟨intE ?_, rfl⟩
  first
    | exact (chkF_2 (f := f) (fun h => by have := code_kind h.1; unfold RestF at h; grind)).symm
    | exact (chkF_0 (f := f) (by unfold RestF; have := code_kind hc0; grind)).symm
 ·skip
  refine SW.skip ?_
  refine hK3 _ _ _ ?_
  refine SW.seq_k fun K7 hK7 => ?_
  refine SW.seq_k fun K8 hK8 => ?_
  refine SW.region _ _ _ _ ?_
  refine RL.p T ?_
  refine RL.lv1 T ?_
  refine RL.nil _ _ _ _ ?_
  refine hK8 _ _ _ ?_
  refine SW.block ?_
  refine SW.seq_k fun K9 hK9 => ?_
  refine SW.region _ _ _ _ ?_
  refine RL.p T ?_
  refine RL.p T ?_
  refine RL.nil _ _ _ _ ?_
  refine hK9 _ _ _ ?_
  refine SW.cs (fun hc1 => ?_) (fun hc1 => ?_)
  ·skip
   refine SW.seq_k fun K10 hK10 => ?_
   refine SW.seq_k fun K11 hK11 => ?_
   refine SW.region _ _ _ _ ?_
   refine RL.p T ?_
   refine RL.lv1 T ?_
   refine RL.p T ?_
   refine RL.join (fr1 := ?_) 4 25 true [26, 27, 28, 29] (fun hs0 hj => ?_) ?_ ?_
   rotate_left
   ·have hs0j := hs0
    try simp only [decide_eq_true_eq, Bool.not_eq_true', decide_eq_false_iff_not, Bool.not_eq_false', Int.not_lt, Int.not_le, Int.toNat_natCast, Bool.and_eq_true, Bool.or_eq_true, Bool.and_eq_false_iff, Bool.or_eq_false_iff] at hs0
    refine RL.p T ?_
    refine RL.lv1 T ?_
    refine RL.p T ?_
    refine RL.p T ?_
    exact hj
   ·repeat first | exact Mx.refl | exact Mx.mix | refine Mx.put rfl ?_ | refine Mx.upd rfl ?_ | refine Mx.updl rfl ?_ | refine Mx.fin rfl ?_ | refine Mx.inner rfl ?_ | refine Mx.none ?_
   refine RL.and ?_
   refine RL.p T ?_
   refine RL.join (fr1 := ?_) 8 31 false [32, 33, 34, 35, 36, 37, 38, 39] (fun hs1 hj => ?_) ?_ ?_
   rotate_left
   ·have hs1j := hs1
    try simp only [decide_eq_true_eq, Bool.not_eq_true', decide_eq_false_iff_not, Bool.not_eq_false', Int.not_lt, Int.not_le, Int.toNat_natCast, Bool.and_eq_true, Bool.or_eq_true, Bool.and_eq_false_iff, Bool.or_eq_false_iff] at hs1
    refine RL.p T ?_
    refine RL.lv1 T ?_
    refine RL.p T ?_
    refine RL.p T ?_
    refine RL.join (fr1 := ?_) 3 35 true [36, 37, 38] (fun hs2 hj => ?_) ?_ ?_
    rotate_left
    ·have hs2j := hs2
     try simp only [decide_eq_true_eq, Bool.not_eq_true', decide_eq_false_iff_not, Bool.not_eq_false', Int.not_lt, Int.not_le, Int.toNat_natCast, Bool.and_eq_true, Bool.or_eq_true, Bool.and_eq_false_iff, Bool.or_eq_false_iff] at hs2
     refine RL.p T ?_
     refine RL.lv1 T ?_
     refine RL.p T ?_
     exact hj
    ·repeat first | exact Mx.refl | exact Mx.mix | refine Mx.put rfl ?_ | refine Mx.upd rfl ?_ | refine Mx.updl rfl ?_ | refine Mx.fin rfl ?_ | refine Mx.inner rfl ?_ | refine Mx.none ?_
    refine RL.and ?_
    exact hj
   ·repeat first | exact Mx.refl | exact Mx.mix | refine Mx.put rfl ?_ | refine Mx.upd rfl ?_ | refine Mx.updl rfl ?_ | refine Mx.fin rfl ?_ | refine Mx.inner rfl ?_ | refine Mx.none ?_
   refine RL.or ?_
   refine RL.p T ?_
   refine RL.join (fr1 := ?_) 3 41 false [42, 43, 44] (fun hs3 hj => ?_) ?_ ?_
   rotate_left
   ·have hs3j := hs3
    try simp only [decide_eq_true_eq, Bool.not_eq_true', decide_eq_false_iff_not, Bool.not_eq_false', Int.not_lt, Int.not_le, Int.toNat_natCast, Bool.and_eq_true, Bool.or_eq_true, Bool.and_eq_false_iff, Bool.or_eq_false_iff] at hs3
    refine RL.p T ?_
    refine RL.lv1 T ?_
    refine RL.p T ?_
    exact hj
   ·repeat first | exact Mx.refl | exact Mx.mix | refine Mx.put rfl ?_ | refine Mx.upd rfl ?_ | refine Mx.updl rfl ?_ | refine Mx.fin rfl ?_ | refine Mx.inner rfl ?_ | refine Mx.none ?_
   refine RL.or ?_
   refine RL.nil _ _ _ _ ?_
   refine hK11 _ _ _ ?_
   refine SW.cs (fun hc2 => ?_) (fun hc2 => ?_)
   ·skip
    refine SW.seq_k fun K12 hK12 => ?_
    refine SW.region _ _ _ _ ?_
    refine RL.p T ?_
    refine RL.nil _ _ _ _ ?_
    refine hK12 _ _ _ ?_
    refine SW.ret ?_
    try clear e
    refine retQ.rr (H) ?_
    clear hK12 K12 hK11 K11 hK10 K10 hK9 K9 hK8 K8 hK7 K7 hK5 K5 hK4 K4 hK3 K3 hK2 K2 hK1 K1 hK0 K0
    subst hn
    refine ⟨intE ?_, rfl⟩
    first
      | exact (chkF_2 (f := f) (fun h => by have := code_kind h.1; unfold RestF at h; grind)).symm
      | exact (chkF_0 (f := f) (by unfold RestF; have := code_kind hc0; grind)).symm
   ·skip
    refine SW.skip ?_
    refine hK10 _ _ _ ?_
    refine SW.region _ _ _ _ ?_
    refine RL.p T ?_
    refine RL.sv1 T ?_
    refine RL.p T ?_
    refine RL.sv1 T ?_
    refine RL.nil _ _ _ _ ?_
    refine hK7 _ _ _ ?_
    refine SW.seq_k fun K13 hK13 => ?_
    refine SW.seq_k fun K14 hK14 => ?_
    refine SW.region _ _ _ _ ?_
    refine RL.p T ?_
    refine RL.lv1 T ?_
    refine RL.p T ?_
    refine RL.p T ?_
    refine RL.join (fr1 := ?_) 3 61 true [62, 63, 64] (fun hs4 hj => ?_) ?_ ?_
    rotate_left
    ·have hs4j := hs4
     try simp only [decide_eq_true_eq, Bool.not_eq_true', decide_eq_false_iff_not, Bool.not_eq_false', Int.not_lt, Int.not_le, Int.toNat_natCast, Bool.and_eq_true, Bool.or_eq_true, Bool.and_eq_false_iff, Bool.or_eq_false_iff] at hs4
     refine RL.p T ?_
     refine RL.lv1 T ?_
     refine RL.p T ?_
     exact hj
    ·repeat first | exact Mx.refl | exact Mx.mix | refine Mx.put rfl ?_ | refine Mx.upd rfl ?_ | refine Mx.updl rfl ?_ | refine Mx.fin rfl ?_ | refine Mx.inner rfl ?_ | refine Mx.none ?_
    refine RL.and ?_
    refine RL.nil _ _ _ _ ?_
    refine hK14 _ _ _ ?_
    refine SW.cs (fun hc3 => ?_) (fun hc3 => ?_)
    ·skip
     refine SW.seq_k fun K15 hK15 => ?_
     refine SW.region _ _ _ _ ?_
     refine RL.p T ?_
     refine RL.nil _ _ _ _ ?_
     refine hK15 _ _ _ ?_
     refine SW.ret ?_
     try clear e
     refine retQ.rr (H) ?_
     clear hK15 K15 hK14 K14 hK13 K13 hK11 K11 hK10 K10 hK9 K9 hK8 K8 hK7 K7 hK5 K5 hK4 K4 hK3 K3 hK2 K2 hK1 K1 hK0 K0
     subst hn
     refine ⟨intE ?_, rfl⟩
     first
       | exact (chkF_2 (f := f) (fun h => by have := code_kind h.1; unfold RestF at h; grind)).symm
       | exact (chkF_0 (f := f) (by unfold RestF; have := code_kind hc0; grind)).symm
    ·skip
     refine SW.skip ?_
     refine hK13 _ _ _ ?_
     refine SW.seq_k fun K16 hK16 => ?_
     refine SW.seq_k fun K17 hK17 => ?_
     refine SW.region _ _ _ _ ?_
     refine RL.p T ?_
     refine RL.lv1 T ?_
     refine RL.p T ?_
     refine RL.join (fr1 := ?_) 2 68 false [69, 70] (fun hs5 hj => ?_) ?_ ?_
     rotate_left
     ·have hs5j := hs5
      try simp only [decide_eq_true_eq, Bool.not_eq_true', decide_eq_false_iff_not, Bool.not_eq_false', Int.not_lt, Int.not_le, Int.toNat_natCast, Bool.and_eq_true, Bool.or_eq_true, Bool.and_eq_false_iff, Bool.or_eq_false_iff] at hs5
      refine RL.p T ?_
      refine RL.lv1 T ?_
      exact hj
     ·repeat first | exact Mx.refl | exact Mx.mix | refine Mx.put rfl ?_ | refine Mx.upd rfl ?_ | refine Mx.updl rfl ?_ | refine Mx.fin rfl ?_ | refine Mx.inner rfl ?_ | refine Mx.none ?_
     refine RL.or ?_
     refine RL.p T ?_
     refine RL.join (fr1 := ?_) 2 72 false [73, 74] (fun hs6 hj => ?_) ?_ ?_
     rotate_left
     ·have hs6j := hs6
      try simp only [decide_eq_true_eq, Bool.not_eq_true', decide_eq_false_iff_not, Bool.not_eq_false', Int.not_lt, Int.not_le, Int.toNat_natCast, Bool.and_eq_true, Bool.or_eq_true, Bool.and_eq_false_iff, Bool.or_eq_false_iff] at hs6
      refine RL.p T ?_
      refine RL.lv1 T ?_
      exact hj
     ·repeat first | exact Mx.refl | exact Mx.mix | refine Mx.put rfl ?_ | refine Mx.upd rfl ?_ | refine Mx.updl rfl ?_ | refine Mx.fin rfl ?_ | refine Mx.inner rfl ?_ | refine Mx.none ?_
     refine RL.or ?_
     refine RL.p T ?_
     refine RL.join (fr1 := ?_) 2 76 false [77, 78] (fun hs7 hj => ?_) ?_ ?_
     rotate_left
     ·have hs7j := hs7
      try simp only [decide_eq_true_eq, Bool.not_eq_true', decide_eq_false_iff_not, Bool.not_eq_false', Int.not_lt, Int.not_le, Int.toNat_natCast, Bool.and_eq_true, Bool.or_eq_true, Bool.and_eq_false_iff, Bool.or_eq_false_iff] at hs7
      refine RL.p T ?_
      refine RL.lv1 T ?_
      exact hj
     ·repeat first | exact Mx.refl | exact Mx.mix | refine Mx.put rfl ?_ | refine Mx.upd rfl ?_ | refine Mx.updl rfl ?_ | refine Mx.fin rfl ?_ | refine Mx.inner rfl ?_ | refine Mx.none ?_
     refine RL.or ?_
     refine RL.p T ?_
     refine RL.join (fr1 := ?_) 2 80 false [81, 82] (fun hs8 hj => ?_) ?_ ?_
     rotate_left
     ·have hs8j := hs8
      try simp only [decide_eq_true_eq, Bool.not_eq_true', decide_eq_false_iff_not, Bool.not_eq_false', Int.not_lt, Int.not_le, Int.toNat_natCast, Bool.and_eq_true, Bool.or_eq_true, Bool.and_eq_false_iff, Bool.or_eq_false_iff] at hs8
      refine RL.p T ?_
      refine RL.lv1 T ?_
      exact hj
     ·repeat first | exact Mx.refl | exact Mx.mix | refine Mx.put rfl ?_ | refine Mx.upd rfl ?_ | refine Mx.updl rfl ?_ | refine Mx.fin rfl ?_ | refine Mx.inner rfl ?_ | refine Mx.none ?_
     refine RL.or ?_
     refine RL.p T ?_
     refine RL.join (fr1 := ?_) 3 84 false [85, 86, 87] (fun hs9 hj => ?_) ?_ ?_
     rotate_left
     ·have hs9j := hs9
      try simp only [decide_eq_true_eq, Bool.not_eq_true', decide_eq_false_iff_not, Bool.not_eq_false', Int.not_lt, Int.not_le, Int.toNat_natCast, Bool.and_eq_true, Bool.or_eq_true, Bool.and_eq_false_iff, Bool.or_eq_false_iff] at hs9
      refine RL.p T ?_
      refine RL.lv1 T ?_
      refine RL.p T ?_
      exact hj
     ·repeat first | exact Mx.refl | exact Mx.mix | refine Mx.put rfl ?_ | refine Mx.upd rfl ?_ | refine Mx.updl rfl ?_ | refine Mx.fin rfl ?_ | refine Mx.inner rfl ?_ | refine Mx.none ?_
     refine RL.or ?_
     refine RL.p T ?_
     refine RL.join (fr1 := ?_) 3 89 false [90, 91, 92] (fun hs10 hj => ?_) ?_ ?_
     rotate_left
     ·have hs10j := hs10
      try simp only [decide_eq_true_eq, Bool.not_eq_true', decide_eq_false_iff_not, Bool.not_eq_false', Int.not_lt, Int.not_le, Int.toNat_natCast, Bool.and_eq_true, Bool.or_eq_true, Bool.and_eq_false_iff, Bool.or_eq_false_iff] at hs10
      refine RL.p T ?_
      refine RL.lv1 T ?_
      refine RL.p T ?_
      exact hj
     ·repeat first | exact Mx.refl | exact Mx.mix | refine Mx.put rfl ?_ | refine Mx.upd rfl ?_ | refine Mx.updl rfl ?_ | refine Mx.fin rfl ?_ | refine Mx.inner rfl ?_ | refine Mx.none ?_
     refine RL.or ?_
     refine RL.p T ?_
     refine RL.join (fr1 := ?_) 3 94 false [95, 96, 97] (fun hs11 hj => ?_) ?_ ?_
     rotate_left
     ·have hs11j := hs11
      try simp only [decide_eq_true_eq, Bool.not_eq_true', decide_eq_false_iff_not, Bool.not_eq_false', Int.not_lt, Int.not_le, Int.toNat_natCast, Bool.and_eq_true, Bool.or_eq_true, Bool.and_eq_false_iff, Bool.or_eq_false_iff] at hs11
      refine RL.p T ?_
      refine RL.lv1 T ?_
      refine RL.p T ?_
      exact hj
     ·repeat first | exact Mx.refl | exact Mx.mix | refine Mx.put rfl ?_ | refine Mx.upd rfl ?_ | refine Mx.updl rfl ?_ | refine Mx.fin rfl ?_ | refine Mx.inner rfl ?_ | refine Mx.none ?_
     refine RL.or ?_
     refine RL.nil _ _ _ _ ?_
     refine hK17 _ _ _ ?_
     refine SW.cs (fun hc4 => ?_) (fun hc4 => ?_)
     ·skip
      refine SW.seq_k fun K18 hK18 => ?_
      refine SW.region _ _ _ _ ?_
      refine RL.p T ?_
      refine RL.nil _ _ _ _ ?_
      refine hK18 _ _ _ ?_
      refine SW.ret ?_
      try clear e
      refine retQ.rr (H) ?_
      clear hK18 K18 hK17 K17 hK16 K16 hK14 K14 hK13 K13 hK11 K11 hK10 K10 hK9 K9 hK8 K8 hK7 K7 hK5 K5 hK4 K4 hK3 K3 hK2 K2 hK1 K1 hK0 K0
      subst hn
      refine ⟨intE ?_, rfl⟩
      first
        | exact (chkF_2 (f := f) (fun h => by have := code_kind h.1; unfold RestF at h; grind)).symm
        | exact (chkF_0 (f := f) (by unfold RestF; have := code_kind hc0; grind)).symm
     ·skip
      refine SW.skip ?_
      refine hK16 _ _ _ ?_
      refine SW.seq_k fun K19 hK19 => ?_
      refine SW.region _ _ _ _ ?_
      refine RL.p T ?_
      refine RL.nil _ _ _ _ ?_
      refine hK19 _ _ _ ?_
      refine SW.ret ?_
      try clear e
      refine retQ.rr (H) ?_
      clear hK19 K19 hK17 K17 hK16 K16 hK14 K14 hK13 K13 hK11 K11 hK10 K10 hK9 K9 hK8 K8 hK7 K7 hK5 K5 hK4 K4 hK3 K3 hK2 K2 hK1 K1 hK0 K0
      subst hn
      refine ⟨intE ?_, rfl⟩
      first
        | exact (chkF_2 (f := f) (fun h => by have := code_kind h.1; unfold RestF at h; grind)).symm
        | exact (chkF_0 (f := f) (by unfold RestF; have := code_kind hc0; grind)).symm
  ·skip
   refine SW.seq_k fun K20 hK20 => ?_
   refine SW.region _ _ _ _ ?_
   refine RL.p T ?_
   refine RL.p T ?_
   refine RL.nil _ _ _ _ ?_
   refine hK20 _ _ _ ?_
   refine SW.cs (fun hc5 => ?_) (fun hc5 => ?_)
   ·skip
    refine SW.region _ _ _ _ ?_
    refine RL.p T ?_
    refine RL.sv1 T ?_
    refine RL.p T ?_
    refine RL.sv1 T ?_
    refine RL.nil _ _ _ _ ?_
    refine hK7 _ _ _ ?_
    refine SW.seq_k fun K21 hK21 => ?_
    refine SW.seq_k fun K22 hK22 => ?_
    refine SW.region _ _ _ _ ?_
    refine RL.p T ?_
    refine RL.lv1 T ?_
    refine RL.p T ?_
    refine RL.p T ?_
    refine RL.join (fr1 := ?_) 3 61 true [62, 63, 64] (fun hs12 hj => ?_) ?_ ?_
    rotate_left
    ·have hs12j := hs12
     try simp only [decide_eq_true_eq, Bool.not_eq_true', decide_eq_false_iff_not, Bool.not_eq_false', Int.not_lt, Int.not_le, Int.toNat_natCast, Bool.and_eq_true, Bool.or_eq_true, Bool.and_eq_false_iff, Bool.or_eq_false_iff] at hs12
     refine RL.p T ?_
     refine RL.lv1 T ?_
     refine RL.p T ?_
     exact hj
    ·repeat first | exact Mx.refl | exact Mx.mix | refine Mx.put rfl ?_ | refine Mx.upd rfl ?_ | refine Mx.updl rfl ?_ | refine Mx.fin rfl ?_ | refine Mx.inner rfl ?_ | refine Mx.none ?_
    refine RL.and ?_
    refine RL.nil _ _ _ _ ?_
    refine hK22 _ _ _ ?_
    refine SW.cs (fun hc6 => ?_) (fun hc6 => ?_)
    ·skip
     refine SW.seq_k fun K23 hK23 => ?_
     refine SW.region _ _ _ _ ?_
     refine RL.p T ?_
     refine RL.nil _ _ _ _ ?_
     refine hK23 _ _ _ ?_
     refine SW.ret ?_
     try clear e
     refine retQ.rr (H) ?_
     clear hK23 K23 hK22 K22 hK21 K21 hK20 K20 hK9 K9 hK8 K8 hK7 K7 hK5 K5 hK4 K4 hK3 K3 hK2 K2 hK1 K1 hK0 K0
     subst hn
     refine ⟨intE ?_, rfl⟩
     first
       | exact (chkF_2 (f := f) (fun h => by have := code_kind h.1; unfold RestF at h; grind)).symm
       | exact (chkF_0 (f := f) (by unfold RestF; have := code_kind hc0; grind)).symm
    ·skip
     refine SW.skip ?_
     refine hK21 _ _ _ ?_
     refine SW.seq_k fun K24 hK24 => ?_
     refine SW.seq_k fun K25 hK25 => ?_
     refine SW.region _ _ _ _ ?_
     refine RL.p T ?_
     refine RL.lv1 T ?_
     refine RL.p T ?_
     refine RL.join (fr1 := ?_) 2 68 false [69, 70] (fun hs13 hj => ?_) ?_ ?_
     rotate_left
     ·have hs13j := hs13
      try simp only [decide_eq_true_eq, Bool.not_eq_true', decide_eq_false_iff_not, Bool.not_eq_false', Int.not_lt, Int.not_le, Int.toNat_natCast, Bool.and_eq_true, Bool.or_eq_true, Bool.and_eq_false_iff, Bool.or_eq_false_iff] at hs13
      refine RL.p T ?_
      refine RL.lv1 T ?_
      exact hj
     ·repeat first | exact Mx.refl | exact Mx.mix | refine Mx.put rfl ?_ | refine Mx.upd rfl ?_ | refine Mx.updl rfl ?_ | refine Mx.fin rfl ?_ | refine Mx.inner rfl ?_ | refine Mx.none ?_
     refine RL.or ?_
     refine RL.p T ?_
     refine RL.join (fr1 := ?_) 2 72 false [73, 74] (fun hs14 hj => ?_) ?_ ?_
     rotate_left
     ·have hs14j := hs14
      try simp only [decide_eq_true_eq, Bool.not_eq_true', decide_eq_false_iff_not, Bool.not_eq_false', Int.not_lt, Int.not_le, Int.toNat_natCast, Bool.and_eq_true, Bool.or_eq_true, Bool.and_eq_false_iff, Bool.or_eq_false_iff] at hs14
      refine RL.p T ?_
      refine RL.lv1 T ?_
      exact hj
     ·repeat first | exact Mx.refl | exact Mx.mix | refine Mx.put rfl ?_ | refine Mx.upd rfl ?_ | refine Mx.updl rfl ?_ | refine Mx.fin rfl ?_ | refine Mx.inner rfl ?_ | refine Mx.none ?_
     refine RL.or ?_
     refine RL.p T ?_
     refine RL.join (fr1 := ?_) 2 76 false [77, 78] (fun hs15 hj => ?_) ?_ ?_
     rotate_left
     ·have hs15j := hs15
      try simp only [decide_eq_true_eq, Bool.not_eq_true', decide_eq_false_iff_not, Bool.not_eq_false', Int.not_lt, Int.not_le, Int.toNat_natCast, Bool.and_eq_true, Bool.or_eq_true, Bool.and_eq_false_iff, Bool.or_eq_false_iff] at hs15
      refine RL.p T ?_
      refine RL.lv1 T ?_
      exact hj
     ·repeat first | exact Mx.refl | exact Mx.mix | refine Mx.put rfl ?_ | refine Mx.upd rfl ?_ | refine Mx.updl rfl ?_ | refine Mx.fin rfl ?_ | refine Mx.inner rfl ?_ | refine Mx.none ?_
     refine RL.or ?_
     refine RL.p T ?_
     refine RL.join (fr1 := ?_) 2 80 false [81, 82] (fun hs16 hj => ?_) ?_ ?_
     rotate_left
     ·have hs16j := hs16
      try simp only [decide_eq_true_eq, Bool.not_eq_true', decide_eq_false_iff_not, Bool.not_eq_false', Int.not_lt, Int.not_le, Int.toNat_natCast, Bool.and_eq_true, Bool.or_eq_true, Bool.and_eq_false_iff, Bool.or_eq_false_iff] at hs16
      refine RL.p T ?_
      refine RL.lv1 T ?_
      exact hj
     ·repeat first | exact Mx.refl | exact Mx.mix | refine Mx.put rfl ?_ | refine Mx.upd rfl ?_ | refine Mx.updl rfl ?_ | refine Mx.fin rfl ?_ | refine Mx.inner rfl ?_ | refine Mx.none ?_
     refine RL.or ?_
     refine RL.p T ?_
     refine RL.join (fr1 := ?_) 3 84 false [85, 86, 87] (fun hs17 hj => ?_) ?_ ?_
     rotate_left
     ·have hs17j := hs17
      try simp only [decide_eq_true_eq, Bool.not_eq_true', decide_eq_false_iff_not, Bool.not_eq_false', Int.not_lt, Int.not_le, Int.toNat_natCast, Bool.and_eq_true, Bool.or_eq_true, Bool.and_eq_false_iff, Bool.or_eq_false_iff] at hs17
      refine RL.p T ?_
      refine RL.lv1 T ?_
      refine RL.p T ?_
      exact hj
     ·repeat first | exact Mx.refl | exact Mx.mix | refine Mx.put rfl ?_ | refine Mx.upd rfl ?_ | refine Mx.updl rfl ?_ | refine Mx.fin rfl ?_ | refine Mx.inner rfl ?_ | refine Mx.none ?_
     refine RL.or ?_
     refine RL.p T ?_
     refine RL.join (fr1 := ?_) 3 89 false [90, 91, 92] (fun hs18 hj => ?_) ?_ ?_
     rotate_left
     ·have hs18j := hs18
      try simp only [decide_eq_true_eq, Bool.not_eq_true', decide_eq_false_iff_not, Bool.not_eq_false', Int.not_lt, Int.not_le, Int.toNat_natCast, Bool.and_eq_true, Bool.or_eq_true, Bool.and_eq_false_iff, Bool.or_eq_false_iff] at hs18
      refine RL.p T ?_
      refine RL.lv1 T ?_
      refine RL.p T ?_
      exact hj
     ·repeat first | exact Mx.refl | exact Mx.mix | refine Mx.put rfl ?_ | refine Mx.upd rfl ?_ | refine Mx.updl rfl ?_ | refine Mx.fin rfl ?_ | refine Mx.inner rfl ?_ | refine Mx.none ?_
     refine RL.or ?_
     refine RL.p T ?_
     refine RL.join (fr1 := ?_) 3 94 false [95, 96, 97] (fun hs19 hj => ?_) ?_ ?_
     rotate_left
     ·have hs19j := hs19
      try simp only [decide_eq_true_eq, Bool.not_eq_true', decide_eq_false_iff_not, Bool.not_eq_false', Int.not_lt, Int.not_le, Int.toNat_natCast, Bool.and_eq_true, Bool.or_eq_true, Bool.and_eq_false_iff, Bool.or_eq_false_iff] at hs19
      refine RL.p T ?_
      refine RL.lv1 T ?_
      refine RL.p T ?_
      exact hj
     ·repeat first | exact Mx.refl | exact Mx.mix | refine Mx.put rfl ?_ | refine Mx.upd rfl ?_ | refine Mx.updl rfl ?_ | refine Mx.fin rfl ?_ | refine Mx.inner rfl ?_ | refine Mx.none ?_
     refine RL.or ?_
     refine RL.nil _ _ _ _ ?_
     refine hK25 _ _ _ ?_
     refine SW.cs (fun hc7 => ?_) (fun hc7 => ?_)
     ·skip
      refine SW.seq_k fun K26 hK26 => ?_
      refine SW.region _ _ _ _ ?_
      refine RL.p T ?_
      refine RL.nil _ _ _ _ ?_
      refine hK26 _ _ _ ?_
      refine SW.ret ?_
      try clear e
      refine retQ.rr (H) ?_
      clear hK26 K26 hK25 K25 hK24 K24 hK22 K22 hK21 K21 hK20 K20 hK9 K9 hK8 K8 hK7 K7 hK5 K5 hK4 K4 hK3 K3 hK2 K2 hK1 K1 hK0 K0
      subst hn
      refine ⟨intE ?_, rfl⟩
      first
        | exact (chkF_2 (f := f) (fun h => by have := code_kind h.1; unfold RestF at h; grind)).symm
        | exact (chkF_0 (f := f) (by unfold RestF; have := code_kind hc0; grind)).symm
     ·skip
      refine SW.skip ?_
      refine hK24 _ _ _ ?_
      refine SW.seq_k fun K27 hK27 => ?_
      refine SW.region _ _ _ _ ?_
      refine RL.p T ?_
      refine RL.nil _ _ _ _ ?_
      refine hK27 _ _ _ ?_
      refine SW.ret ?_
      try clear e
      refine retQ.rr (H) ?_
      clear hK27 K27 hK25 K25 hK24 K24 hK22 K22 hK21 K21 hK20 K20 hK9 K9 hK8 K8 hK7 K7 hK5 K5 hK4 K4 hK3 K3 hK2 K2 hK1 K1 hK0 K0
      subst hn
      refine ⟨intE ?_, rfl⟩
      first
        | exact (chkF_2 (f := f) (fun h => by have := code_kind h.1; unfold RestF at h; grind)).symm
        | exact (chkF_0 (f := f) (by unfold RestF; have := code_kind hc0; grind)).symm
   ·skip
    refine SW.seq_k fun K28 hK28 => ?_
    refine SW.region _ _ _ _ ?_
    refine RL.p T ?_
    refine RL.p T ?_
    refine RL.nil _ _ _ _ ?_
    refine hK28 _ _ _ ?_
    refine SW.cs (fun hc8 => ?_) (fun hc8 => ?_)
    ·skip
     refine SW.region _ _ _ _ ?_
     refine RL.p T ?_
     refine RL.sv1 T ?_
     refine RL.p T ?_
     refine RL.sv1 T ?_
     refine RL.p T ?_
     refine RL.sv1 T ?_
     refine RL.p T ?_
     refine RL.sv1 T ?_
     refine RL.nil _ _ _ _ ?_
     refine hK7 _ _ _ ?_
     refine SW.seq_k fun K29 hK29 => ?_
     refine SW.seq_k fun K30 hK30 => ?_
     refine SW.region _ _ _ _ ?_
     refine RL.p T ?_
     refine RL.lv1 T ?_
     refine RL.p T ?_
     refine RL.p T ?_
     refine RL.join (fr1 := ?_) 3 61 true [62, 63, 64] (fun hs20 hj => ?_) ?_ ?_
     rotate_left
     ·have hs20j := hs20
      try simp only [decide_eq_true_eq, Bool.not_eq_true', decide_eq_false_iff_not, Bool.not_eq_false', Int.not_lt, Int.not_le, Int.toNat_natCast, Bool.and_eq_true, Bool.or_eq_true, Bool.and_eq_false_iff, Bool.or_eq_false_iff] at hs20
      refine RL.p T ?_
      refine RL.lv1 T ?_
      refine RL.p T ?_
      exact hj
     ·repeat first | exact Mx.refl | exact Mx.mix | refine Mx.put rfl ?_ | refine Mx.upd rfl ?_ | refine Mx.updl rfl ?_ | refine Mx.fin rfl ?_ | refine Mx.inner rfl ?_ | refine Mx.none ?_
     refine RL.and ?_
     refine RL.nil _ _ _ _ ?_
     refine hK30 _ _ _ ?_
     refine SW.cs (fun hc9 => ?_) (fun hc9 => ?_)
     ·skip
      refine SW.seq_k fun K31 hK31 => ?_
      refine SW.region _ _ _ _ ?_
      refine RL.p T ?_
      refine RL.nil _ _ _ _ ?_
      refine hK31 _ _ _ ?_
      refine SW.ret ?_
      try clear e
      refine retQ.rr (H) ?_
      clear hK31 K31 hK30 K30 hK29 K29 hK28 K28 hK20 K20 hK9 K9 hK8 K8 hK7 K7 hK5 K5 hK4 K4 hK3 K3 hK2 K2 hK1 K1 hK0 K0
      subst hn
      refine ⟨intE ?_, rfl⟩
      first
        | exact (chkF_2 (f := f) (fun h => by have := code_kind h.1; unfold RestF at h; grind)).symm
        | exact (chkF_0 (f := f) (by unfold RestF; have := code_kind hc0; grind)).symm
     ·skip
      refine SW.skip ?_
      refine hK29 _ _ _ ?_
      refine SW.seq_k fun K32 hK32 => ?_
      refine SW.seq_k fun K33 hK33 => ?_
      refine SW.region _ _ _ _ ?_
      refine RL.p T ?_
      refine RL.lv1 T ?_
      refine RL.p T ?_
      refine RL.join (fr1 := ?_) 2 68 false [69, 70] (fun hs21 hj => ?_) ?_ ?_
      rotate_left
      ·have hs21j := hs21
       try simp only [decide_eq_true_eq, Bool.not_eq_true', decide_eq_false_iff_not, Bool.not_eq_false', Int.not_lt, Int.not_le, Int.toNat_natCast, Bool.and_eq_true, Bool.or_eq_true, Bool.and_eq_false_iff, Bool.or_eq_false_iff] at hs21
       refine RL.p T ?_
       refine RL.lv1 T ?_
       exact hj
      ·repeat first | exact Mx.refl | exact Mx.mix | refine Mx.put rfl ?_ | refine Mx.upd rfl ?_ | refine Mx.updl rfl ?_ | refine Mx.fin rfl ?_ | refine Mx.inner rfl ?_ | refine Mx.none ?_
      refine RL.or ?_
      refine RL.p T ?_
      refine RL.join (fr1 := ?_) 2 72 false [73, 74] (fun hs22 hj => ?_) ?_ ?_
      rotate_left
      ·have hs22j := hs22
       try simp only [decide_eq_true_eq, Bool.not_eq_true', decide_eq_false_iff_not, Bool.not_eq_false', Int.not_lt, Int.not_le, Int.toNat_natCast, Bool.and_eq_true, Bool.or_eq_true, Bool.and_eq_false_iff, Bool.or_eq_false_iff] at hs22
       refine RL.p T ?_
       refine RL.lv1 T ?_
       exact hj
      ·repeat first | exact Mx.refl | exact Mx.mix | refine Mx.put rfl ?_ | refine Mx.upd rfl ?_ | refine Mx.updl rfl ?_ | refine Mx.fin rfl ?_ | refine Mx.inner rfl ?_ | refine Mx.none ?_
      refine RL.or ?_
      refine RL.p T ?_
      refine RL.join (fr1 := ?_) 2 76 false [77, 78] (fun hs23 hj => ?_) ?_ ?_
      rotate_left
      ·have hs23j := hs23
       try simp only [decide_eq_true_eq, Bool.not_eq_true', decide_eq_false_iff_not, Bool.not_eq_false', Int.not_lt, Int.not_le, Int.toNat_natCast, Bool.and_eq_true, Bool.or_eq_true, Bool.and_eq_false_iff, Bool.or_eq_false_iff] at hs23
       refine RL.p T ?_
       refine RL.lv1 T ?_
       exact hj
      ·repeat first | exact Mx.refl | exact Mx.mix | refine Mx.put rfl ?_ | refine Mx.upd rfl ?_ | refine Mx.updl rfl ?_ | refine Mx.fin rfl ?_ | refine Mx.inner rfl ?_ | refine Mx.none ?_
      refine RL.or ?_
      refine RL.p T ?_
      refine RL.join (fr1 := ?_) 2 80 false [81, 82] (fun hs24 hj => ?_) ?_ ?_
      rotate_left
      ·have hs24j := hs24
       try simp only [decide_eq_true_eq, Bool.not_eq_true', decide_eq_false_iff_not, Bool.not_eq_false', Int.not_lt, Int.not_le, Int.toNat_natCast, Bool.and_eq_true, Bool.or_eq_true, Bool.and_eq_false_iff, Bool.or_eq_false_iff] at hs24
       refine RL.p T ?_
       refine RL.lv1 T ?_
       exact hj
      ·repeat first | exact Mx.refl | exact Mx.mix | refine Mx.put rfl ?_ | refine Mx.upd rfl ?_ | refine Mx.updl rfl ?_ | refine Mx.fin rfl ?_ | refine Mx.inner rfl ?_ | refine Mx.none ?_
      refine RL.or ?_
      refine RL.p T ?_
      refine RL.join (fr1 := ?_) 3 84 false [85, 86, 87] (fun hs25 hj => ?_) ?_ ?_
      rotate_left
      ·have hs25j := hs25
       try simp only [decide_eq_true_eq, Bool.not_eq_true', decide_eq_false_iff_not, Bool.not_eq_false', Int.not_lt, Int.not_le, Int.toNat_natCast, Bool.and_eq_true, Bool.or_eq_true, Bool.and_eq_false_iff, Bool.or_eq_false_iff] at hs25
       refine RL.p T ?_
       refine RL.lv1 T ?_
       refine RL.p T ?_
       exact hj
      ·repeat first | exact Mx.refl | exact Mx.mix | refine Mx.put rfl ?_ | refine Mx.upd rfl ?_ | refine Mx.updl rfl ?_ | refine Mx.fin rfl ?_ | refine Mx.inner rfl ?_ | refine Mx.none ?_
      refine RL.or ?_
      refine RL.p T ?_
      refine RL.join (fr1 := ?_) 3 89 false [90, 91, 92] (fun hs26 hj => ?_) ?_ ?_
      rotate_left
      ·have hs26j := hs26
       try simp only [decide_eq_true_eq, Bool.not_eq_true', decide_eq_false_iff_not, Bool.not_eq_false', Int.not_lt, Int.not_le, Int.toNat_natCast, Bool.and_eq_true, Bool.or_eq_true, Bool.and_eq_false_iff, Bool.or_eq_false_iff] at hs26
       refine RL.p T ?_
       refine RL.lv1 T ?_
       refine RL.p T ?_
       exact hj
      ·repeat first | exact Mx.refl | exact Mx.mix | refine Mx.put rfl ?_ | refine Mx.upd rfl ?_ | refine Mx.updl rfl ?_ | refine Mx.fin rfl ?_ | refine Mx.inner rfl ?_ | refine Mx.none ?_
      refine RL.or ?_
      refine RL.p T ?_
      refine RL.join (fr1 := ?_) 3 94 false [95, 96, 97] (fun hs27 hj => ?_) ?_ ?_
      rotate_left
      ·have hs27j := hs27
       try simp only [decide_eq_true_eq, Bool.not_eq_true', decide_eq_false_iff_not, Bool.not_eq_false', Int.not_lt, Int.not_le, Int.toNat_natCast, Bool.and_eq_true, Bool.or_eq_true, Bool.and_eq_false_iff, Bool.or_eq_false_iff] at hs27
       refine RL.p T ?_
       refine RL.lv1 T ?_
       refine RL.p T ?_
       exact hj
      ·repeat first | exact Mx.refl | exact Mx.mix | refine Mx.put rfl ?_ | refine Mx.upd rfl ?_ | refine Mx.updl rfl ?_ | refine Mx.fin rfl ?_ | refine Mx.inner rfl ?_ | refine Mx.none ?_
      refine RL.or ?_
      refine RL.nil _ _ _ _ ?_
      refine hK33 _ _ _ ?_
      refine SW.cs (fun hc10 => ?_) (fun hc10 => ?_)
      ·skip
       refine SW.seq_k fun K34 hK34 => ?_
       refine SW.region _ _ _ _ ?_
       refine RL.p T ?_
       refine RL.nil _ _ _ _ ?_
       refine hK34 _ _ _ ?_
       refine SW.ret ?_
       try clear e
       refine retQ.rr (H) ?_
       clear hK34 K34 hK33 K33 hK32 K32 hK30 K30 hK29 K29 hK28 K28 hK20 K20 hK9 K9 hK8 K8 hK7 K7 hK5 K5 hK4 K4 hK3 K3 hK2 K2 hK1 K1 hK0 K0
       subst hn
       refine ⟨intE ?_, rfl⟩
       first
         | exact (chkF_2 (f := f) (fun h => by have := code_kind h.1; unfold RestF at h; grind)).symm
         | exact (chkF_0 (f := f) (by unfold RestF; have := code_kind hc0; grind)).symm
      ·skip
       refine SW.skip ?_
       refine hK32 _ _ _ ?_
       refine SW.seq_k fun K35 hK35 => ?_
       refine SW.region _ _ _ _ ?_
       refine RL.p T ?_
       refine RL.nil _ _ _ _ ?_
       refine hK35 _ _ _ ?_
       refine SW.ret ?_
       try clear e
       refine retQ.rr (H) ?_
       clear hK35 K35 hK33 K33 hK32 K32 hK30 K30 hK29 K29 hK28 K28 hK20 K20 hK9 K9 hK8 K8 hK7 K7 hK5 K5 hK4 K4 hK3 K3 hK2 K2 hK1 K1 hK0 K0
       subst hn
       refine ⟨intE ?_, rfl⟩
       first
         | exact (chkF_2 (f := f) (fun h => by have := code_kind h.1; unfold RestF at h; grind)).symm
         | exact (chkF_0 (f := f) (by unfold RestF; have := code_kind hc0; grind)).symm
    ·skip
     refine SW.skip ?_
     refine hK7 _ _ _ ?_
     refine SW.seq_k fun K36 hK36 => ?_
     refine SW.seq_k fun K37 hK37 => ?_
     refine SW.region _ _ _ _ ?_
     refine RL.p T ?_
     refine RL.lv1 T ?_
     refine RL.p T ?_
     refine RL.p T ?_
     refine RL.join (fr1 := ?_) 3 61 true [62, 63, 64] (fun hs28 hj => ?_) ?_ ?_
     rotate_left
     ·have hs28j := hs28
      try simp only [decide_eq_true_eq, Bool.not_eq_true', decide_eq_false_iff_not, Bool.not_eq_false', Int.not_lt, Int.not_le, Int.toNat_natCast, Bool.and_eq_true, Bool.or_eq_true, Bool.and_eq_false_iff, Bool.or_eq_false_iff] at hs28
      refine RL.p T ?_
      refine RL.lv1 T ?_
      refine RL.p T ?_
      exact hj
     ·repeat first | exact Mx.refl | exact Mx.mix | refine Mx.put rfl ?_ | refine Mx.upd rfl ?_ | refine Mx.updl rfl ?_ | refine Mx.fin rfl ?_ | refine Mx.inner rfl ?_ | refine Mx.none ?_
     refine RL.and ?_
     refine RL.nil _ _ _ _ ?_
     refine hK37 _ _ _ ?_
     refine SW.cs (fun hc11 => ?_) (fun hc11 => ?_)
     ·skip
      refine SW.seq_k fun K38 hK38 => ?_
      refine SW.region _ _ _ _ ?_
      refine RL.p T ?_
      refine RL.nil _ _ _ _ ?_
      refine hK38 _ _ _ ?_
      refine SW.ret ?_
      try clear e
      refine retQ.rr (H) ?_
      clear hK38 K38 hK37 K37 hK36 K36 hK28 K28 hK20 K20 hK9 K9 hK8 K8 hK7 K7 hK5 K5 hK4 K4 hK3 K3 hK2 K2 hK1 K1 hK0 K0
      subst hn
      refine ⟨intE ?_, rfl⟩
      first
        | exact (chkF_2 (f := f) (fun h => by have := code_kind h.1; unfold RestF at h; grind)).symm
        | exact (chkF_0 (f := f) (by unfold RestF; have := code_kind hc0; grind)).symm
     ·skip
      refine SW.skip ?_
      refine hK36 _ _ _ ?_
      refine SW.seq_k fun K39 hK39 => ?_
      refine SW.seq_k fun K40 hK40 => ?_
      refine SW.region _ _ _ _ ?_
      refine RL.p T ?_
      refine RL.lv1 T ?_
      refine RL.p T ?_
      refine RL.join (fr1 := ?_) 2 68 false [69, 70] (fun hs29 hj => ?_) ?_ ?_
      rotate_left
      ·have hs29j := hs29
       try simp only [decide_eq_true_eq, Bool.not_eq_true', decide_eq_false_iff_not, Bool.not_eq_false', Int.not_lt, Int.not_le, Int.toNat_natCast, Bool.and_eq_true, Bool.or_eq_true, Bool.and_eq_false_iff, Bool.or_eq_false_iff] at hs29
       refine RL.p T ?_
       refine RL.lv1 T ?_
       exact hj
      ·repeat first | exact Mx.refl | exact Mx.mix | refine Mx.put rfl ?_ | refine Mx.upd rfl ?_ | refine Mx.updl rfl ?_ | refine Mx.fin rfl ?_ | refine Mx.inner rfl ?_ | refine Mx.none ?_
      refine RL.or ?_
      refine RL.p T ?_
      refine RL.join (fr1 := ?_) 2 72 false [73, 74] (fun hs30 hj => ?_) ?_ ?_
      rotate_left
      ·have hs30j := hs30
       try simp only [decide_eq_true_eq, Bool.not_eq_true', decide_eq_false_iff_not, Bool.not_eq_false', Int.not_lt, Int.not_le, Int.toNat_natCast, Bool.and_eq_true, Bool.or_eq_true, Bool.and_eq_false_iff, Bool.or_eq_false_iff] at hs30
       refine RL.p T ?_
       refine RL.lv1 T ?_
       exact hj
      ·repeat first | exact Mx.refl | exact Mx.mix | refine Mx.put rfl ?_ | refine Mx.upd rfl ?_ | refine Mx.updl rfl ?_ | refine Mx.fin rfl ?_ | refine Mx.inner rfl ?_ | refine Mx.none ?_
      refine RL.or ?_
      refine RL.p T ?_
      refine RL.join (fr1 := ?_) 2 76 false [77, 78] (fun hs31 hj => ?_) ?_ ?_
      rotate_left
      ·have hs31j := hs31
       try simp only [decide_eq_true_eq, Bool.not_eq_true', decide_eq_false_iff_not, Bool.not_eq_false', Int.not_lt, Int.not_le, Int.toNat_natCast, Bool.and_eq_true, Bool.or_eq_true, Bool.and_eq_false_iff, Bool.or_eq_false_iff] at hs31
       refine RL.p T ?_
       refine RL.lv1 T ?_
       exact hj
      ·repeat first | exact Mx.refl | exact Mx.mix | refine Mx.put rfl ?_ | refine Mx.upd rfl ?_ | refine Mx.updl rfl ?_ | refine Mx.fin rfl ?_ | refine Mx.inner rfl ?_ | refine Mx.none ?_
      refine RL.or ?_
      refine RL.p T ?_
      refine RL.join (fr1 := ?_) 2 80 false [81, 82] (fun hs32 hj => ?_) ?_ ?_
      rotate_left
      ·have hs32j := hs32
       try simp only [decide_eq_true_eq, Bool.not_eq_true', decide_eq_false_iff_not, Bool.not_eq_false', Int.not_lt, Int.not_le, Int.toNat_natCast, Bool.and_eq_true, Bool.or_eq_true, Bool.and_eq_false_iff, Bool.or_eq_false_iff] at hs32
       refine RL.p T ?_
       refine RL.lv1 T ?_
       exact hj
      ·repeat first | exact Mx.refl | exact Mx.mix | refine Mx.put rfl ?_ | refine Mx.upd rfl ?_ | refine Mx.updl rfl ?_ | refine Mx.fin rfl ?_ | refine Mx.inner rfl ?_ | refine Mx.none ?_
      refine RL.or ?_
      refine RL.p T ?_
      refine RL.join (fr1 := ?_) 3 84 false [85, 86, 87] (fun hs33 hj => ?_) ?_ ?_
      rotate_left
      ·have hs33j := hs33
       try simp only [decide_eq_true_eq, Bool.not_eq_true', decide_eq_false_iff_not, Bool.not_eq_false', Int.not_lt, Int.not_le, Int.toNat_natCast, Bool.and_eq_true, Bool.or_eq_true, Bool.and_eq_false_iff, Bool.or_eq_false_iff] at hs33
       refine RL.p T ?_
       refine RL.lv1 T ?_
       refine RL.p T ?_
       exact hj
      ·repeat first | exact Mx.refl | exact Mx.mix | refine Mx.put rfl ?_ | refine Mx.upd rfl ?_ | refine Mx.updl rfl ?_ | refine Mx.fin rfl ?_ | refine Mx.inner rfl ?_ | refine Mx.none ?_
      refine RL.or ?_
      refine RL.p T ?_
      refine RL.join (fr1 := ?_) 3 89 false [90, 91, 92] (fun hs34 hj => ?_) ?_ ?_
      rotate_left
      ·have hs34j := hs34
       try simp only [decide_eq_true_eq, Bool.not_eq_true', decide_eq_false_iff_not, Bool.not_eq_false', Int.not_lt, Int.not_le, Int.toNat_natCast, Bool.and_eq_true, Bool.or_eq_true, Bool.and_eq_false_iff, Bool.or_eq_false_iff] at hs34
       refine RL.p T ?_
       refine RL.lv1 T ?_
       refine RL.p T ?_
       exact hj
      ·repeat first | exact Mx.refl | exact Mx.mix | refine Mx.put rfl ?_ | refine Mx.upd rfl ?_ | refine Mx.updl rfl ?_ | refine Mx.fin rfl ?_ | refine Mx.inner rfl ?_ | refine Mx.none ?_
      refine RL.or ?_
      refine RL.p T ?_
      refine RL.join (fr1 := ?_) 3 94 false [95, 96, 97] (fun hs35 hj => ?_) ?_ ?_
      rotate_left
      ·have hs35j := hs35
       try simp only [decide_eq_true_eq, Bool.not_eq_true', decide_eq_false_iff_not, Bool.not_eq_false', Int.not_lt, Int.not_le, Int.toNat_natCast, Bool.and_eq_true, Bool.or_eq_true, Bool.and_eq_false_iff, Bool.or_eq_false_iff] at hs35
       refine RL.p T ?_
       refine RL.lv1 T ?_
       refine RL.p T ?_
       exact hj
      ·repeat first | exact Mx.refl | exact Mx.mix | refine Mx.put rfl ?_ | refine Mx.upd rfl ?_ | refine Mx.updl rfl ?_ | refine Mx.fin rfl ?_ | refine Mx.inner rfl ?_ | refine Mx.none ?_
      refine RL.or ?_
      refine RL.nil _ _ _ _ ?_
      refine hK40 _ _ _ ?_
      refine SW.cs (fun hc12 => ?_) (fun hc12 => ?_)
      ·skip
       refine SW.seq_k fun K41 hK41 => ?_
       refine SW.region _ _ _ _ ?_
       refine RL.p T ?_
       refine RL.nil _ _ _ _ ?_
       refine hK41 _ _ _ ?_
       refine SW.ret ?_
       try clear e
       refine retQ.rr (H) ?_
       clear hK41 K41 hK40 K40 hK39 K39 hK37 K37 hK36 K36 hK28 K28 hK20 K20 hK9 K9 hK8 K8 hK7 K7 hK5 K5 hK4 K4 hK3 K3 hK2 K2 hK1 K1 hK0 K0
       subst hn
       refine ⟨intE ?_, rfl⟩
       first
         | exact (chkF_2 (f := f) (fun h => by have := code_kind h.1; unfold RestF at h; grind)).symm
         | exact (chkF_0 (f := f) (by unfold RestF; have := code_kind hc0; grind)).symm
      ·skip
       refine SW.skip ?_
       refine hK39 _ _ _ ?_
       refine SW.seq_k fun K42 hK42 => ?_
       refine SW.region _ _ _ _ ?_
       refine RL.p T ?_
       refine RL.nil _ _ _ _ ?_
       refine hK42 _ _ _ ?_
       refine SW.ret ?_
       try clear e
       refine retQ.rr (H) ?_
       clear hK42 K42 hK40 K40 hK39 K39 hK37 K37 hK36 K36 hK28 K28 hK20 K20 hK9 K9 hK8 K8 hK7 K7 hK5 K5 hK4 K4 hK3 K3 hK2 K2 hK1 K1 hK0 K0
       subst hn
       refine ⟨intE ?_, rfl⟩
       first
         | exact (chkF_2 (f := f) (fun h => by have := code_kind h.1; unfold RestF at h; grind)).symm
         | exact (chkF_0 (f := f) (by unfold RestF; have := code_kind hc0; grind)).symm
end Go.Proofs.Ytgdnanfnmaafoaa.M
