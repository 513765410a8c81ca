import Derived.Test.YtgdnanfnmaafoaaProg
import Derived.Test.YtgdnanfnmaafoaaFE15
import Derived.Test.YtgdnanfnmaafoaaP15b
set_option linter.unusedVariables false
set_option linter.unusedSimpArgs false
namespace Go.Proofs.Ytgdnanfnmaafoaa.M
open Go Go.Sep Go.Proofs
set_option maxRecDepth 10000
set_option maxHeartbeats 2000000
def PQ : Pl Try.prog where
  is t := Nat.beq t 38 || Nat.beq t 46
  h t ht := by
    rw [Bool.or_eq_true] at ht
    rcases ht with ht | ht
    · obtain rfl := Nat.eq_of_beq_eq_true ht
      refine ⟨by kernel_rfl, by kernel_rfl, fun fs hfs f hf => ?_⟩
      rw [Try.underlying38] at hfs
      cases hfs
      revert f; decide
    · obtain rfl := Nat.eq_of_beq_eq_true ht
      refine ⟨by kernel_rfl, by kernel_rfl, fun fs hfs f hf => ?_⟩
      rw [Try.underlying46] at hfs
      cases hfs
      revert f; decide
theorem eq38 (q p : Rul) : eqd T PQ 20 38 (RuA q) (RuA p) = some (eqR q p) := rfl
theorem eq46 (q p : Rul) : eqd T PQ 20 46 (RuA q) (RuA p) = some (eqR q p) := rfl
theorem guard46 : Try.prog.eqGuardType Try.prog.depth 46 = false := by kernel_rfl
theorem guard38 : Try.prog.eqGuardType Try.prog.depth 38 = false := by kernel_rfl
theorem key38 (q : Rul) (e : Bool) (w : World) : (Instr.checkKey e 10000 38 (RuA q)).run Try.prog w = .ok () w := by
  refine run_checkKey_struct T (fs := _) (by exact (rfl : _ = some _)) ?_ e 9998
  intro f hf
  have hf' : f ∈ [_, _, _, _, _, _, _, _, _, _] := hf
  simp only [List.mem_cons, List.mem_nil_iff, or_false] at hf'
  rcases hf' with rfl | rfl | rfl | rfl | rfl | rfl | rfl | rfl | rfl | rfl
  all_goals first
    | exact ⟨_, _, rfl, rfl, .inr (.inr ⟨_, rfl⟩)⟩
    | exact ⟨_, _, rfl, rfl, .inl rfl⟩
theorem rbsame {w0 : World} {H : List Chunk} (rs : List Rul) (sr : Option Addr) (nr cr : Nat) (hB : Rd w0 H sr nr cr 10 (rs.flatMap RuC)) (hnr : nr = rs.length) (hmr : nr ≤ 140737488351232) (hrs : ∀ k, RuOk (rs.getD k default)) (d : Bool) (ps : List Rul) (st : Option Addr) (nt ct : Nat) (hB2 : Rd w0 H st nt ct 10 (ps.flatMap RuC)) (hnt : nt = ps.length) (hmt : nt ≤ 140737488351232) (hps2 : ∀ k, RuOk (ps.getD k default)) (d2 : Bool) : SC Try.prog w0 22 #[.agg #[.slice sr nr cr, .bool d], .agg #[.slice st nt ct, .bool d2]] H (fun v H' => v = .bool (decide (rs = ps ∧ d = d2)) ∧ H' = H) := by
 refine SC.enter Try.func22 rfl (Nat.le_of_ble_eq_true rfl) ?_
 refine SW.seq_k fun K0 hK0 => ?_
 refine SW.region _ _ _ _ ?_
 refine RL.s ?_
 refine NV.box rfl (by exact (rfl : _ = [_, _])) ?_
 intro b2_0
 refine RL.s ?_
 refine NV.box rfl (by exact (rfl : _ = [_, _])) ?_
 intro b3_1
 refine RL.p T ?_
 refine RL.nil _ _ _ _ ?_
 refine hK0 _ _ _ ?_
 refine SW.seq_k fun K1 hK1 => ?_
 refine SW.seq_k fun K2 hK2 => ?_
 refine SW.region _ _ _ _ ?_
 refine RL.p T ?_
 refine RL.lv1 T ?_
 refine RL.p T ?_
 refine RL.lv1 T ?_
 refine RL.p T ?_
 refine RL.p T ?_
 refine RL.join (fr1 := ?_) 7 11 false [12, 13, 14, 15, 16, 17, 18] (fun hs0 hj => ?_) ?_ ?_
 rotate_left
 ·have hs0j := hs0
  try simp only [decide_eq_true_eq, Bool.not_eq_true', decide_eq_false_iff_not, Bool.not_eq_false', Int.not_lt, Int.not_le, Int.toNat_natCast, Bool.and_eq_true, Bool.or_eq_true, Bool.and_eq_false_iff, Bool.or_eq_false_iff] at hs0
  refine RL.p T ?_
  refine RL.lv1 T ?_
  refine RL.p T ?_
  refine RL.p T ?_
  refine RL.lv1 T ?_
  refine RL.p T ?_
  refine RL.p T ?_
  exact hj
 ·repeat first | exact Mx.refl | exact Mx.mix | refine Mx.put rfl ?_ | refine Mx.upd rfl ?_ | refine Mx.updl rfl ?_ | refine Mx.fin rfl ?_ | refine Mx.inner rfl ?_ | refine Mx.none ?_
 refine RL.or ?_
 refine RL.nil _ _ _ _ ?_
 refine hK2 _ _ _ ?_
 refine SW.cs (fun hc0 => ?_) (fun hc0 => ?_)
 ·skip
  refine SW.seq_k fun K3 hK3 => ?_
  refine SW.region _ _ _ _ ?_
  refine RL.p T ?_
  refine RL.nil _ _ _ _ ?_
  refine hK3 _ _ _ ?_
  refine SW.ret ?_
  refine retQ.rr (H) ?_
  clear hK3 K3 hK2 K2 hK1 K1 hK0 K0
  refine ⟨boolE ?_, rfl⟩
  first
    | exact (decide_eq_false (by rintro ⟨rfl, rfl⟩; simp at hc0; omega)).symm
    | exact (decide_eq_false (fun h => sameR_ne (k := k) (by assumption) h.1)).symm
    | exact (decide_eq_true ⟨sameR_end (k := k) (by omega) (by omega) hb, by simp at hc0; exact hc0.1⟩).symm
 ·skip
  refine SW.skip ?_
  refine hK1 _ _ _ ?_
  refine SW.seq_k fun K4 hK4 => ?_
  refine SW.seq_k fun K5 hK5 => ?_
  refine SW.region _ _ _ _ ?_
  refine RL.p T ?_
  refine RL.lv1 T ?_
  refine RL.p T ?_
  refine RL.p T ?_
  refine RL.nil _ _ _ _ ?_
  refine hK5 _ _ _ ?_
  refine SW.block ?_
  refine SW.loopM (fun frB mm fr ds HH => ∃ (k : Nat) , mm = nr - k ∧ (k ≤ nr ∧ (rs.take k = ps.take k)) ∧ FrIs [4, 5, 23, 24, 25, 26, 27, 28, 29, 30, 31, 32, 33, 34, 35, 36, 37] frB fr [(23, .int .i64 k)] ∧ ds = [] ∧ HH = (.var b3_1 24 [.slice st nt ct, .bool d2] :: .var b2_0 24 [.slice sr nr cr, .bool d] :: H)) (n := nr - 0) ?_ ?_
  ·exact ⟨0, rfl, ⟨Nat.zero_le _, rfl⟩, (.cons rfl (.nil (by repeat first | exact Mx.refl | exact Mx.mix | refine Mx.put rfl ?_ | refine Mx.upd rfl ?_ | refine Mx.updl rfl ?_ | refine Mx.fin rfl ?_ | refine Mx.inner rfl ?_ | refine Mx.none ?_))), rfl, rfl⟩
  ·rintro mm fr ds HH ⟨k, rfl, ⟨hk, hb⟩, hFr, rfl, eHH⟩
   obtain rfl := eHH.symm
   obtain ⟨frU, rfl⟩ := hFr.eq
   clear hFr
   refine SW.seq_k fun K6 hK6 => ?_
   refine SW.region _ _ _ _ ?_
   refine RL.p T ?_
   refine RL.nil _ _ _ _ ?_
   refine hK6 _ _ _ ?_
   refine SW.seq_k fun K7 hK7 => ?_
   refine SW.cs (fun hc1 => ?_) (fun hc1 => ?_)
   ·skip
    refine SW.skip ?_
    refine hK7 _ _ _ ?_
    refine SW.seq_k fun K8 hK8 => ?_
    refine SW.block ?_
    refine SW.seq_k fun K9 hK9 => ?_
    refine SW.region _ _ _ _ ?_
    refine RL.p T ?_
    refine RL.p T ?_
    refine RL.nil _ _ _ _ ?_
    refine hK9 _ _ _ ?_
    refine SW.seq_k fun K10 hK10 => ?_
    refine SW.drawQ [(26, 0), (27, 1), (28, 2), (29, 3), (30, 4), (31, 5), (32, 6), (33, 7), (34, 8), (35, 9), (36, 10)] [[], [0], [], [1, 0, 2], [3, 1, 0, 2], [], [5], [], [6, 5, 7], [8, 6, 5, 7], [4, 3, 1, 0, 2, 9, 8, 6, 5, 7]] mixed (by kernel_rfl) (by kernel_rfl) ?_
    refine QL.p T ?_
    refine QL.lv1 T ?_
    refine QL.p T ?_
    refine QL.ix T ?_
    refine QL.leN T ?_ (hvs := (by exact (rfl : _ = [_, _, _, _, _, _, _, _, _, _])))
    refine QL.p T ?_
    refine QL.lv1 T ?_
    refine QL.p T ?_
    refine QL.ix T ?_
    refine QL.leN T ?_ (hvs := (by exact (rfl : _ = [_, _, _, _, _, _, _, _, _, _])))
    refine QL.step (by first | exact Gd.none rfl | exact Gd.yes rfl rfl | exact Gd.yes rfl (congrArg Value.bool (by assumption))) rfl (QV.neqd T PQ rfl rfl rfl guard46 (eq46 (rs.getD k default) (ps.getD k default))) ?_
    refine QL.nil ?_
    refine hK10 _ _ _ ?_
    refine SW.cs (fun hc2 => ?_) (fun hc2 => ?_)
    ·skip
     refine SW.seq_k fun K11 hK11 => ?_
     refine SW.region _ _ _ _ ?_
     refine RL.p T ?_
     refine RL.nil _ _ _ _ ?_
     refine hK11 _ _ _ ?_
     refine SW.ret ?_
     refine retQ.rr (H) ?_
     clear hK11 K11 hK10 K10 hK9 K9 hK8 K8 hK7 K7 hK6 K6 hK5 K5 hK4 K4 hK2 K2 hK1 K1 hK0 K0
     refine ⟨boolE ?_, rfl⟩
     first
       | exact (decide_eq_false (by rintro ⟨rfl, rfl⟩; simp at hc0; omega)).symm
       | exact (decide_eq_false (fun h => sameR_ne (k := k) (by assumption) h.1)).symm
       | exact (decide_eq_true ⟨sameR_end (k := k) (by omega) (by omega) hb, by simp at hc0; exact hc0.1⟩).symm
    ·skip
     refine SW.skip ?_
     refine hK8 _ _ _ ?_
     refine SW.region _ _ _ _ ?_
     first | refine RL.ar ?_ | refine RL.p T ?_
     refine RL.p T ?_
     refine RL.nil _ _ _ _ ?_
     exact ⟨nr - (k + 1), (by omega), k + 1, (by rfl), ⟨by omega, sameR_step (by omega) (by omega) hb (by assumption)⟩, (.cons rfl (.nil (by repeat first | exact Mx.refl | exact Mx.mix | refine Mx.put rfl ?_ | refine Mx.upd rfl ?_ | refine Mx.updl rfl ?_ | refine Mx.fin rfl ?_ | refine Mx.inner rfl ?_ | refine Mx.none ?_))), rfl, rfl⟩
   ·skip
    refine SW.exit ?_
    refine hK4 _ _ _ ?_
    refine SW.seq_k fun K12 hK12 => ?_
    refine SW.region _ _ _ _ ?_
    refine RL.p T ?_
    refine RL.nil _ _ _ _ ?_
    refine hK12 _ _ _ ?_
    refine SW.ret ?_
    refine retQ.rr (H) ?_
    clear hK12 K12 hK7 K7 hK6 K6 hK5 K5 hK4 K4 hK2 K2 hK1 K1 hK0 K0
    refine ⟨boolE ?_, rfl⟩
    first
      | exact (decide_eq_false (by rintro ⟨rfl, rfl⟩; simp at hc0; omega)).symm
      | exact (decide_eq_false (fun h => sameR_ne (k := k) (by assumption) h.1)).symm
      | exact (decide_eq_true ⟨sameR_end (k := k) (by omega) (by omega) hb, by simp at hc0; exact hc0.1⟩).symm
end Go.Proofs.Ytgdnanfnmaafoaa.M
