import Derived.Test.YtlgdfoniijmlbaaDoorProg
import Derived.Test.YtlgdfoniijmlbaaDoorFE20D
import Derived.Test.YtlgdfoniijmlbaaDoorP20b
set_option linter.unusedVariables false
set_option linter.unusedSimpArgs false
namespace Go.Proofs.YtlgdfoniijmlbaaDoor.M
open Go Go.Sep Go.Proofs
set_option maxRecDepth 10000
set_option maxHeartbeats 2000000
theorem addU {w0 : World} {H : List Chunk} (p : Pd) (hp : PdOk w0 H p) (b room wait age : Nat) (used : Int) (la : Option Addr) (ln lc : Nat) (l : List Pd) (hn : ln = l.length) (hu : used = (usedM (mg l) : Nat)) (hu2 : usedM (mg l) ≤ 2048) (hok : ∀ y ∈ l, PdOk w0 H y) (hr2 : room ≤ 2048) (hu3 : usedM (mg l) + 8 ≤ room) : SC Tryd.prog w0 9 #[.pointer (some ⟨b, 0, none⟩), PdA p] (.var b 55 [.int .i64 ((room : Nat) : Int), .int .i64 ((wait : Nat) : Int), .slice la ln lc, .int .i64 used, .int .i64 ((age : Nat) : Int)] :: .row la ln lc 35 2 (List.flatMap PdC l) :: H) (fun v H' => ∃ D oa' on' oc' os' la' ln' lc' l' age' used', v = .tuple #[.slice oa' on' oc', .int .i64 (addE room (mgP p))] ∧ H' = .row oa' on' oc' 30 1 (List.flatMap SlC os') :: .var b 55 [.int .i64 ((room : Nat) : Int), .int .i64 ((wait : Nat) : Int), .slice la' ln' lc', .int .i64 used', .int .i64 ((age' : Nat) : Int)] :: .row la' ln' lc' 35 2 (List.flatMap PdC l') :: (D ++ H) ∧ on' = os'.length ∧ ln' = l'.length ∧ used' = (usedM (mg l') : Nat) ∧ outD os' = addOu room (mg l) (mgP p) ∧ mg l' = addLu room (mg l) (mgP p) ∧ age' = ageO (outD os') age ∧ (∀ q ∈ os', SlOk w0 D q) ∧ (∀ y ∈ l', y ∈ l ∨ PdOk w0 D y)) := by
  by_cases h : wk (mgP p) ≤ room
  · rw [addE, addOu, addLu, if_pos h, if_pos h, if_pos h]
    exact add_ok p hp b room wait age used la ln lc l hn hu hu2 hok (by omega) hr2 (by omega) h
  · rw [addE, addOu, addLu, if_neg h, if_neg h, if_neg h]
    have key : ∀ X : List Chunk, PdOk w0 X p → SC Tryd.prog w0 9 #[.pointer (some ⟨b, 0, none⟩), PdA p] (.var b 55 [.int .i64 ((room : Nat) : Int), .int .i64 ((wait : Nat) : Int), .slice la ln lc, .int .i64 used, .int .i64 ((age : Nat) : Int)] :: X) (fun v H' => v = .tuple #[.slice none 0 0, .int .i64 2] ∧ H' = .var b 55 [.int .i64 ((room : Nat) : Int), .int .i64 ((wait : Nat) : Int), .slice la ln lc, .int .i64 used, .int .i64 ((age : Nat) : Int)] :: X) := by
      intro X hX
      by_cases h2 : wk (mgP p) ≤ 2048
      · exact add_bad2 p hX b room wait age used la ln lc h2 (by omega)
      · exact add_bad1 p hX b room wait age used la ln lc (by omega)
    refine SC.nilrow 30 1 (SC.out (SC.wk (key (.row none 0 0 30 1 [] :: .row la ln lc 35 2 (List.flatMap PdC l) :: H) hp.cons.cons)) ?_)
    rintro _ _ ⟨rfl, rfl⟩
    exact ⟨.row none 0 0 30 1 (List.flatMap SlC []) :: .var b 55 [.int .i64 ((room : Nat) : Int), .int .i64 ((wait : Nat) : Int), .slice la ln lc, .int .i64 used, .int .i64 ((age : Nat) : Int)] :: .row la ln lc 35 2 (List.flatMap PdC l) :: ([] ++ H), SubL.by, [], none, 0, 0, [], la, ln, lc, l, age, used, rfl, rfl, rfl, hn, hu, rfl, rfl, rfl, by simp, fun y hy => .inl hy⟩
theorem alive {w0 : World} {H : List Chunk}  : SC Tryd.prog w0 7 #[] H (fun v H' => v = .bool true ∧ H' = H) := by
 refine SC.enter Tryd.func7 rfl (Nat.le_of_ble_eq_true rfl) ?_
 refine SW.seq_k fun K0 hK0 => ?_
 refine SW.region _ _ _ _ ?_
 refine RL.p T ?_
 refine RL.nil _ _ _ _ ?_
 refine hK0 _ _ _ ?_
 refine SW.seq_k fun K1 hK1 => ?_
 refine SW.region _ _ _ _ ?_
 refine RL.c fun8 (fun hs => new_ok 24 2 (by omega)) ?_
 rintro _ _ ⟨b, rfl, e⟩; obtain rfl := e.symm
 refine RL.p T ?_
 refine RL.p T ?_
 refine RL.p T ?_
 refine RL.p T ?_
 refine RL.p T ?_
 refine RL.nil _ _ _ _ ?_
 refine hK1 _ _ _ ?_
 refine SW.seq_k fun K2 hK2 => ?_
 refine SW.seq_k fun K3 hK3 => ?_
 refine SW.region _ _ _ _ ?_
 refine RL.p T ?_
 refine RL.p T ?_
 refine RL.p T ?_
 refine RL.p T ?_
 refine RL.p T ?_
 refine RL.p T ?_
 refine RL.nil _ _ _ _ ?_
 refine hK3 _ _ _ ?_
 refine SW.cs (fun hc0 => ?_) (fun hc0 => ?_)
 ·skip
  first
   | (exfalso; first | omega | contradiction | (clear hK3 K3; clear hK2 K2; clear hK1 K1; clear hK0 K0; simp at *; done))
   | (
    refine SW.seq_k fun K4 hK4 => ?_
    refine SW.region _ _ _ _ ?_
    refine RL.p T ?_
    refine RL.nil _ _ _ _ ?_
    refine hK4 _ _ _ ?_
    refine SW.ret ?_
    refine retQ.rr (H) ?_
    clear hK4 K4 hK3 K3 hK2 K2 hK1 K1 hK0 K0
    refine ⟨boolE ?_, rfl⟩; simp only [List.getD_eq_getElem?_getD] at hn24; simp; omega
    )
 ·skip
  first
   | (exfalso; first | omega | contradiction | (clear hK3 K3; clear hK2 K2; clear hK1 K1; clear hK0 K0; simp at *; done))
   | (
    refine SW.skip ?_
    refine hK2 _ _ _ ?_
    refine SW.seq_k fun K5 hK5 => ?_
    refine SW.nilrow 35 2 ?_
    refine SW.region _ _ _ _ ?_
    refine RL.bs T rfl rfl rfl (by exact (rfl : _ = some [_])) (fun b21_0 => ?_)
    refine RL.s ?_
    first | refine NV.buildc T rfl (rfl : _ = some [_, _]) ?_ | refine NV.buildz T rfl (rfl : _ = some [_, _]) ?_ | refine NV.pure T (rfl : _ = some (Value.agg #[_, _])) ?_
    refine RL.s ?_
    refine NV.alloc T rfl rfl rfl (by exact (rfl : _ = [_, _])) ?_
    intro b3_1
    refine RL.s ?_
    refine NV.sN T rfl rfl rfl (by exact (rfl : _ = [_, _])) (by exact (rfl : _ = [_, _])) ?_
    refine RL.nil _ _ _ _ ?_
    refine hK5 _ _ _ ?_
    refine SW.seq_k fun K6 hK6 => ?_
    refine SW.region _ _ _ _ ?_
    refine RL.p T ?_
    refine RL.q (QV.vN T rfl rfl rfl rfl rfl (by exact (rfl : _ = [_, _]))) ?_
    refine RL.c fun9 (fun hs => SC.wk (addU (⟨1, [1], some ⟨b21_0, 0, none⟩, 1, 1⟩ : Pd) ⟨by dsimp only; omega, rfl, by dsimp only; omega, Byte.one (by omega) (by omega), Rd.rowh (satT (H0 := .var b3_1 35 [.int .u32 1, .slice (some ⟨b21_0, 0, none⟩) 1 1] :: .row (some ⟨b21_0, 0, none⟩) 1 1 5 1 [.int .u8 1] :: H) hs) (by repeat first | exact At.head _ _ | apply At.tail | apply At.app)⟩ b 24 2 0 0 none 0 0 [] rfl rfl (by decide) (by simp) (by omega) (by decide) (H := .var b3_1 35 [.int .u32 1, .slice (some ⟨b21_0, 0, none⟩) 1 1] :: .row (some ⟨b21_0, 0, none⟩) 1 1 5 1 [.int .u8 1] :: H))) ?_
    rintro _ _ ⟨D1, oa1, on1, oc1, os1, la1, ln1, lc1, l1, age1, us1, rfl, e, hon1, hln1, hus1, hos1, hl1, hag1, hoq1, hly1⟩; obtain rfl := e.symm
    obtain ⟨ho1, hm1, he1⟩ := alive1
    replace hos1 := hos1.trans ho1
    replace hl1 := hl1.trans hm1
    have hz1 : on1 = 0 := by rw [hon1, ← outD_len, hos1]; rfl
    rw [show addE 24 (mgP (⟨1, [1], some ⟨b21_0, 0, none⟩, 1, 1⟩ : Pd)) = 0 from he1]
    refine RL.p T ?_
    refine RL.p T ?_
    refine RL.p T ?_
    refine RL.p T ?_
    refine RL.p T ?_
    refine RL.nil _ _ _ _ ?_
    refine hK6 _ _ _ ?_
    refine SW.seq_k fun K7 hK7 => ?_
    refine SW.region _ _ _ _ ?_
    refine RL.p T ?_
    refine RL.q (QV.vN T rfl rfl rfl rfl rfl (by exact (rfl : _ = [_, _]))) ?_
    refine RL.c fun9 (fun hs => SC.wk (addU (⟨1, [1], some ⟨b21_0, 0, none⟩, 1, 1⟩ : Pd) ⟨by dsimp only; omega, rfl, by dsimp only; omega, Byte.one (by omega) (by omega), Rd.rowh (satT (H0 := D1 ++ (.var b3_1 35 [.int .u32 1, .slice (some ⟨b21_0, 0, none⟩) 1 1] :: .row (some ⟨b21_0, 0, none⟩) 1 1 5 1 [.int .u8 1] :: H)) hs) (by repeat first | exact At.head _ _ | apply At.tail | apply At.app)⟩ b 24 2 age1 us1 la1 ln1 lc1 l1 hln1 hus1 (by rw [hl1]; decide) (fun y hy => ((hly1 y hy).resolve_left (by simp)).sub SubL.by) (by omega) (by rw [hl1]; decide) (H := D1 ++ (.var b3_1 35 [.int .u32 1, .slice (some ⟨b21_0, 0, none⟩) 1 1] :: .row (some ⟨b21_0, 0, none⟩) 1 1 5 1 [.int .u8 1] :: H)))) ?_
    rintro _ _ ⟨D2, oa2, on2, oc2, os2, la2, ln2, lc2, l2, age2, us2, rfl, e, hon2, hln2, hus2, hos2, hl2, hag2, hoq2, hly2⟩; obtain rfl := e.symm
    rw [hl1] at hos2
    have h24 := alive2
    have hz2 : on2 = 1 := by rw [hon2, ← outD_len, hos2]; exact h24.1
    have hn24 : (os2.getD 0 default).n = 24 := by
      have hq := hoq2 (os2.getD 0 default) (getD_memS (by omega))
      rw [hq.len, outD_getD (by omega), hos2]
      exact h24.2
    rw [show addE 24 (mgP (⟨1, [1], some ⟨b21_0, 0, none⟩, 1, 1⟩ : Pd)) = 0 from he1]
    refine RL.p T ?_
    refine RL.p T ?_
    refine RL.p T ?_
    refine RL.p T ?_
    refine RL.p T ?_
    refine RL.nil _ _ _ _ ?_
    refine hK7 _ _ _ ?_
    refine SW.seq_k fun K8 hK8 => ?_
    refine SW.region _ _ _ _ ?_
    refine RL.p T ?_
    refine RL.nil _ _ _ _ ?_
    refine hK8 _ _ _ ?_
    refine SW.seq_k fun K9 hK9 => ?_
    refine SW.region _ _ _ _ ?_
    refine RL.p T ?_
    refine RL.q (QV.vN T rfl rfl rfl rfl rfl (by exact (rfl : _ = [_, _]))) ?_
    refine RL.c fun9 (fun hs => add_nil (⟨1, [1], some ⟨b21_0, 0, none⟩, 1, 1⟩ : Pd) ⟨by dsimp only; omega, rfl, by dsimp only; omega, Byte.one (by omega) (by omega), Rd.rowh (satT (H0 := _) hs) (by repeat first | exact At.head _ _ | apply At.tail | apply At.app)⟩) ?_
    rintro _ _ ⟨rfl, e⟩; obtain rfl := e.symm
    refine RL.p T ?_
    refine RL.p T ?_
    refine RL.p T ?_
    refine RL.p T ?_
    refine RL.p T ?_
    refine RL.nil _ _ _ _ ?_
    refine hK9 _ _ _ ?_
    refine SW.seq_k fun K10 hK10 => ?_
    refine SW.region _ _ _ _ ?_
    refine RL.p T ?_
    refine RL.p T ?_
    refine RL.p T ?_
    refine RL.p T ?_
    refine RL.join (fr1 := ?_) 3 44 true [45, 46, 47] (fun hs0 hj => ?_) ?_ ?_
    rotate_left
    ·have hs0j := hs0
     try simp only [decide_eq_true_eq, Bool.not_eq_true', decide_eq_false_iff_not, Bool.not_eq_false', Int.not_lt, Int.not_le, Int.toNat_natCast, Bool.and_eq_true, Bool.or_eq_true, Bool.and_eq_false_iff, Bool.or_eq_false_iff] at hs0
     refine RL.p T ?_
     refine RL.p T ?_
     refine RL.p T ?_
     exact hj
    ·repeat first | with_reducible exact Mx.refl | with_reducible exact Mx.mix | refine Mx.put rfl ?_ | refine Mx.upd rfl ?_ | refine Mx.updl rfl ?_ | refine Mx.fin rfl ?_ | refine Mx.inner rfl ?_ | refine Mx.none ?_ | exact Mx.refl | exact Mx.mix
    refine RL.and ?_
    refine RL.p T ?_
    refine RL.join (fr1 := ?_) 5 49 true [50, 51, 52, 53, 54] (fun hs1 hj => ?_) ?_ ?_
    rotate_left
    ·have hs1j := hs1
     try simp only [decide_eq_true_eq, Bool.not_eq_true', decide_eq_false_iff_not, Bool.not_eq_false', Int.not_lt, Int.not_le, Int.toNat_natCast, Bool.and_eq_true, Bool.or_eq_true, Bool.and_eq_false_iff, Bool.or_eq_false_iff] at hs1
     refine RL.p T ?_
     refine RL.ix T ?_
     refine RL.le T ?_ (hv := (slc_get (by omega)))
     refine RL.p T ?_
     refine RL.p T ?_
     exact hj
    ·repeat first | with_reducible exact Mx.refl | with_reducible exact Mx.mix | refine Mx.put rfl ?_ | refine Mx.upd rfl ?_ | refine Mx.updl rfl ?_ | refine Mx.fin rfl ?_ | refine Mx.inner rfl ?_ | refine Mx.none ?_ | exact Mx.refl | exact Mx.mix
    refine RL.and ?_
    refine RL.p T ?_
    refine RL.join (fr1 := ?_) 2 56 true [57, 58] (fun hs2 hj => ?_) ?_ ?_
    rotate_left
    ·have hs2j := hs2
     try simp only [decide_eq_true_eq, Bool.not_eq_true', decide_eq_false_iff_not, Bool.not_eq_false', Int.not_lt, Int.not_le, Int.toNat_natCast, Bool.and_eq_true, Bool.or_eq_true, Bool.and_eq_false_iff, Bool.or_eq_false_iff] at hs2
     refine RL.p T ?_
     refine RL.p T ?_
     exact hj
    ·repeat first | with_reducible exact Mx.refl | with_reducible exact Mx.mix | refine Mx.put rfl ?_ | refine Mx.upd rfl ?_ | refine Mx.updl rfl ?_ | refine Mx.fin rfl ?_ | refine Mx.inner rfl ?_ | refine Mx.none ?_ | exact Mx.refl | exact Mx.mix
    refine RL.and ?_
    refine RL.p T ?_
    refine RL.join (fr1 := ?_) 2 60 true [61, 62] (fun hs3 hj => ?_) ?_ ?_
    rotate_left
    ·have hs3j := hs3
     try simp only [decide_eq_true_eq, Bool.not_eq_true', decide_eq_false_iff_not, Bool.not_eq_false', Int.not_lt, Int.not_le, Int.toNat_natCast, Bool.and_eq_true, Bool.or_eq_true, Bool.and_eq_false_iff, Bool.or_eq_false_iff] at hs3
     refine RL.p T ?_
     refine RL.p T ?_
     exact hj
    ·repeat first | with_reducible exact Mx.refl | with_reducible exact Mx.mix | refine Mx.put rfl ?_ | refine Mx.upd rfl ?_ | refine Mx.updl rfl ?_ | refine Mx.fin rfl ?_ | refine Mx.inner rfl ?_ | refine Mx.none ?_ | exact Mx.refl | exact Mx.mix
    refine RL.and ?_
    refine RL.p T ?_
    refine RL.join (fr1 := ?_) 2 64 true [65, 66] (fun hs4 hj => ?_) ?_ ?_
    rotate_left
    ·have hs4j := hs4
     try simp only [decide_eq_true_eq, Bool.not_eq_true', decide_eq_false_iff_not, Bool.not_eq_false', Int.not_lt, Int.not_le, Int.toNat_natCast, Bool.and_eq_true, Bool.or_eq_true, Bool.and_eq_false_iff, Bool.or_eq_false_iff] at hs4
     refine RL.p T ?_
     refine RL.p T ?_
     exact hj
    ·repeat first | with_reducible exact Mx.refl | with_reducible exact Mx.mix | refine Mx.put rfl ?_ | refine Mx.upd rfl ?_ | refine Mx.updl rfl ?_ | refine Mx.fin rfl ?_ | refine Mx.inner rfl ?_ | refine Mx.none ?_ | exact Mx.refl | exact Mx.mix
    refine RL.and ?_
    refine RL.p T ?_
    refine RL.nil _ _ _ _ ?_
    refine hK10 _ _ _ ?_
    refine SW.ret ?_
    refine retQ.rr (H) ?_
    clear hK10 K10 hK9 K9 hK8 K8 hK7 K7 hK6 K6 hK5 K5 hK3 K3 hK2 K2 hK1 K1 hK0 K0
    refine ⟨boolE ?_, rfl⟩; simp only [List.getD_eq_getElem?_getD] at hn24; simp; omega
    )
end Go.Proofs.YtlgdfoniijmlbaaDoor.M
