import Derived.Test.YthigfghfpmpiiaaDoorProg
import Derived.Test.YthigfghfpmpiiaaDoorFI20DE
import Derived.Test.YthigfghfpmpiiaaDoorS22
set_option linter.unusedVariables false
set_option linter.unusedSimpArgs false
namespace Go.Proofs.YthigfghfpmpiiaaDoor.M
open Go Go.Sep Go.Proofs
set_option maxRecDepth 10000
set_option maxHeartbeats 2000000
theorem sclone_nil {w0 : World} {H : List Chunk} (c : Nat) : SC Tryd.prog w0 27 #[.slice none 0 c] H (fun v H' => v = .slice none 0 0 ∧ H' = .row none 0 0 5 1 (List.map (Value.int .u8) ([])) :: H) := by
 refine SC.enter Tryd.func27 rfl (Nat.le_of_ble_eq_true rfl) ?_
 refine SW.seq_k fun K0 hK0 => ?_
 refine SW.region _ _ _ _ ?_
 refine RL.p T ?_
 refine RL.nil _ _ _ _ ?_
 refine hK0 _ _ _ ?_
 refine SW.seq_k fun K1 hK1 => ?_
 refine SW.seq_k fun K2 hK2 => ?_
 refine SW.region _ _ _ _ ?_
 refine RL.p T ?_
 refine RL.p T ?_
 refine RL.nil _ _ _ _ ?_
 refine hK2 _ _ _ ?_
 refine SW.cs (fun hc0 => ?_) (fun hc0 => ?_)
 ·skip
  first
   | (exfalso; first | omega | contradiction | (clear hK2 K2; clear hK1 K1; clear hK0 K0; simp at *; done))
   | (
    refine SW.seq_k fun K3 hK3 => ?_
    refine SW.nilrow 5 1 ?_
    refine SW.region _ _ _ _ ?_
    refine RL.p T ?_
    refine RL.nil _ _ _ _ ?_
    refine hK3 _ _ _ ?_
    refine SW.ret ?_
    refine retQ.rr ((.row none 0 0 5 1 (List.map (Value.int .u8) ([])) :: H)) ?_
    clear hK3 K3 hK2 K2 hK1 K1 hK0 K0
    exact ⟨rfl, rfl⟩
    )
 ·skip
  first
   | (exfalso; first | omega | contradiction | (clear hK2 K2; clear hK1 K1; clear hK0 K0; simp at *; done))
   | (
    refine SW.skip ?_
    refine hK1 _ _ _ ?_
    refine SW.seq_k fun K4 hK4 => ?_
    refine SW.region _ _ _ _ ?_
    refine RL.bs T rfl rfl rfl (by exact (rfl : _ = some [])) (fun b5_0 => ?_)
    refine RL.p T ?_
    first | refine RL.apI1 (ki := .u8) T (fun a0_ c0_ => ?_) | refine RL.apI (ki := .u8) T (fun a0_ c0_ => ?_) | refine RL.apI (ki := .u8) (xs := []) T (fun a0_ c0_ => ?_)
    refine RL.p T ?_
    refine RL.nil _ _ _ _ ?_
    refine hK4 _ _ _ ?_
    refine SW.ret ?_
    refine retQ.rr ((.row none 0 0 5 1 (List.map (Value.int .u8) ([])) :: H)) ?_
    clear hK4 K4 hK2 K2 hK1 K1 hK0 K0
    exact ⟨rfl, rfl⟩
    )
theorem sclone_some {w0 : World} {H : List Chunk} (p : Addr) (n c : Nat) (es : List Int) (hR : Rd w0 H (some p) n c 1 (es.map (.int .u8))) (hm : n ≤ 140737488351232) : SC Tryd.prog w0 27 #[.slice (some p) n c] H (fun v H' => ∃ a c', v = .slice a n c' ∧ H' = .row a n c' 5 1 (List.map (Value.int .u8) (es)) :: H) := by
 refine SC.enter Tryd.func27 rfl (Nat.le_of_ble_eq_true rfl) ?_
 refine SW.seq_k fun K0 hK0 => ?_
 refine SW.region _ _ _ _ ?_
 refine RL.p T ?_
 refine RL.nil _ _ _ _ ?_
 refine hK0 _ _ _ ?_
 refine SW.seq_k fun K1 hK1 => ?_
 refine SW.seq_k fun K2 hK2 => ?_
 refine SW.region _ _ _ _ ?_
 refine RL.p T ?_
 refine RL.p T ?_
 refine RL.nil _ _ _ _ ?_
 refine hK2 _ _ _ ?_
 refine SW.cs (fun hc0 => ?_) (fun hc0 => ?_)
 ·skip
  first
   | (exfalso; first | omega | contradiction | (clear hK2 K2; clear hK1 K1; clear hK0 K0; simp at *; done))
   | (
    refine SW.seq_k fun K3 hK3 => ?_
    refine SW.region _ _ _ _ ?_
    refine RL.p T ?_
    refine RL.nil _ _ _ _ ?_
    refine hK3 _ _ _ ?_
    refine SW.ret ?_
    refine retQ.rr ((.row a0_ (0 + n) c0_ 5 1 (List.map (Value.int .u8) ([] ++ es)) :: H)) ?_
    clear hK3 K3 hK2 K2 hK1 K1 hK0 K0
    exact ⟨a0_, c0_, by rw [Nat.zero_add]; rfl, by rw [Nat.zero_add]; rfl⟩
    )
 ·skip
  first
   | (exfalso; first | omega | contradiction | (clear hK2 K2; clear hK1 K1; clear hK0 K0; simp at *; done))
   | (
    refine SW.skip ?_
    refine hK1 _ _ _ ?_
    refine SW.seq_k fun K4 hK4 => ?_
    refine SW.region _ _ _ _ ?_
    refine RL.bs T rfl rfl rfl (by exact (rfl : _ = some [])) (fun b5_0 => ?_)
    refine RL.p T ?_
    refine RL.apI (ki := .u8) (xs := []) (ys := es) T (fun a0_ c0_ => ?_) (hR := fun hs => hR.cons)
    refine RL.p T ?_
    refine RL.nil _ _ _ _ ?_
    refine hK4 _ _ _ ?_
    refine SW.ret ?_
    refine retQ.rr ((.row a0_ (0 + n) c0_ 5 1 (List.map (Value.int .u8) ([] ++ es)) :: H)) ?_
    clear hK4 K4 hK2 K2 hK1 K1 hK0 K0
    exact ⟨a0_, c0_, by rw [Nat.zero_add]; rfl, by rw [Nat.zero_add]; rfl⟩
    )
theorem sclone {w0 : World} {H : List Chunk} (sa : Option Addr) (n c : Nat) (es : List Int) (hR : Rd w0 H sa n c 1 (es.map (.int .u8))) (hn : n = es.length) (hm : n ≤ 140737488351232) : SC Tryd.prog w0 27 #[.slice sa n c] H (fun v H' => ∃ a c', v = .slice a n c' ∧ H' = .row a n c' 5 1 (List.map (Value.int .u8) (es)) :: H) := by
  cases sa with
  | some p => exact sclone_some p n c es hR hm
  | none =>
    have h0 : n = 0 := by
      rcases Nat.eq_zero_or_pos n with h | h
      · exact h
      · have := hR.some h; cases this
    subst h0
    obtain rfl : es = [] := List.eq_nil_of_length_eq_zero hn.symm
    exact (sclone_nil c).mono fun _ _ ⟨h1, h2⟩ => ⟨none, 0, h1, h2⟩
theorem first {w0 : World} {H : List Chunk} (sa : Option Addr) (n c : Nat) (es : List Int) (hR : Rd w0 H sa n c 1 (es.map (.int .u8))) (hn : n = es.length) (hm : n ≤ 140737488351232) (hB : Byte es) : SC Tryd.prog w0 25 #[.slice sa n c] H (fun v H' => ∃ D p, v = .tuple #[PdA p, .int .i64 (((firstS es).2.1 : Nat) : Int), .int .i64 (firstS es).2.2] ∧ H' = D ++ H ∧ PdOk w0 D p ∧ mgP p = (firstS es).1) := by
 refine SC.enter Tryd.func25 rfl (Nat.le_of_ble_eq_true rfl) ?_
 refine SW.seq_k fun K0 hK0 => ?_
 have hE4 := hB.get (Int.toNat 4)
 have hE5 := hB.get (Int.toNat 5)
 have hE0 := hB.get (Int.toNat 0)
 have hE1 := hB.get (Int.toNat 1)
 have hE2 := hB.get (Int.toNat 2)
 have hE3 := hB.get (Int.toNat 3)
 have hwg := whole_ge (lenB es)
 have hlm := lenB_max hB
 have hir := idB_rng hB
 refine SW.region _ _ _ _ ?_
 refine RL.s ?_
 refine NV.alloc T rfl rfl rfl (by exact (rfl : _ = [_, _])) ?_
 intro b2_0
 refine RL.p T ?_
 refine RL.p T ?_
 refine RL.nil _ _ _ _ ?_
 refine hK0 _ _ _ ?_
 refine SW.seq_k fun K1 hK1 => ?_
 refine SW.seq_k fun K2 hK2 => ?_
 refine SW.region _ _ _ _ ?_
 refine RL.p T ?_
 refine RL.p T ?_
 refine RL.p T ?_
 refine RL.nil _ _ _ _ ?_
 refine hK2 _ _ _ ?_
 refine SW.cs (fun hc0 => ?_) (fun hc0 => ?_)
 ·skip
  first
   | (exfalso; first | omega | contradiction | (clear hK2 K2; clear hK1 K1; clear hK0 K0; simp at *; done))
   | (
    refine SW.seq_k fun K3 hK3 => ?_
    refine SW.region _ _ _ _ ?_
    refine RL.s ?_
    first | refine NV.buildc T rfl (rfl : _ = some [_, _]) ?_ | refine NV.buildz T rfl (rfl : _ = some [_, _]) ?_ | refine NV.pure T (rfl : _ = some (Value.agg #[_, _])) ?_
    refine RL.s ?_
    refine NV.sN T rfl rfl rfl (by exact (rfl : _ = [_, _])) (by exact (rfl : _ = [_, _])) ?_
    refine RL.p T ?_
    refine RL.p T ?_
    refine RL.nil _ _ _ _ ?_
    refine hK3 _ _ _ ?_
    refine SW.sat (fun hs => ?_)
    refine SW.ret ?_
    refine retQ.ra (H) (RVs.cN T rfl rfl rfl rfl (by exact (rfl : _ = [_, _])) (RVs.t (RVs.t RVs.nil))) ?_
    clear hK3 K3 hK2 K2 hK1 K1 hK0 K0
    exact ⟨[], default, (by rw [first_short (by omega)]; rfl), rfl, PdOk.dflt, (by rw [first_short (by omega)]; rfl)⟩
    )
 ·skip
  first
   | (exfalso; first | omega | contradiction | (clear hK2 K2; clear hK1 K1; clear hK0 K0; simp at *; done))
   | (
    refine SW.skip ?_
    refine hK1 _ _ _ ?_
    refine SW.seq_k fun K4 hK4 => ?_
    refine SW.drawQ [(12, 0), (13, 1), (14, 2), (15, 3), (16, 4), (17, 5), (18, 6), (19, 7), (20, 8), (21, 9), (5, 10)] [[], [0], [1, 0], [2, 1, 0], [3, 2, 1, 0], [], [5], [6, 5], [7, 6, 5], [4, 3, 2, 1, 0, 8, 7, 6, 5], [9, 4, 3, 2, 1, 0, 8, 7, 6, 5]] mixed (by kernel_rfl) (by kernel_rfl) ?_
    refine QL.p T ?_
    refine QL.ix T ?_ (hR := fun hs => hR.cons)
    refine QL.le T ?_ (hR := fun hs => hR.cons)
    first | refine QL.cv T ?_ | refine QL.p T ?_ | refine QL.ts T ?_
    refine QL.step (by first | exact Gd.none rfl | exact Gd.yes rfl rfl | exact Gd.yes rfl (congrArg Value.bool (by assumption))) rfl (QV.shlP (s := 8) rfl rfl rfl rfl rfl (by simp only [loK]; omega) (by simp only [hiK]; omega)) ?_
    refine QL.p T ?_
    refine QL.ix T ?_ (hR := fun hs => hR.cons)
    refine QL.le T ?_ (hR := fun hs => hR.cons)
    first | refine QL.cv T ?_ | refine QL.p T ?_ | refine QL.ts T ?_
    refine QL.step (by first | exact Gd.none rfl | exact Gd.yes rfl rfl | exact Gd.yes rfl (congrArg Value.bool (by assumption))) rfl (QV.as (QV.orA T (es.getD (Int.toNat 4) 0).toNat 8 rfl rfl rfl (by rw [Int.toNat_of_nonneg (by omega)]; try omega) (by omega) (by omega) (by simp only [hiK]; omega)) (show Value.int .i64 (es.getD (Int.toNat 4) 0 * 2 ^ 8 + es.getD (Int.toNat 5) 0) = .int .i64 ((lenB es : Nat) : Int) from by rw [← lenB_eq hB]; rfl)) ?_
    refine QL.p T ?_
    refine QL.nil ?_
    refine hK4 _ _ _ ?_
    refine SW.seq_k fun K5 hK5 => ?_
    refine SW.region _ _ _ _ ?_
    refine RL.p T ?_
    refine RL.c fun22 (fun hs => whole (lenB es) (by omega)) ?_
    rintro _ _ ⟨rfl, e⟩; obtain rfl := e.symm
    refine RL.p T ?_
    refine RL.nil _ _ _ _ ?_
    refine hK5 _ _ _ ?_
    refine SW.seq_k fun K6 hK6 => ?_
    refine SW.block ?_
    refine SW.seq_k fun K7 hK7 => ?_
    refine SW.region _ _ _ _ ?_
    refine RL.p T ?_
    refine RL.p T ?_
    refine RL.p T ?_
    refine RL.p T ?_
    refine RL.p T ?_
    refine RL.nil _ _ _ _ ?_
    refine hK7 _ _ _ ?_
    refine SW.cs (fun hc1 => ?_) (fun hc1 => ?_)
    ·skip
     first
      | (exfalso; first | omega | contradiction | (clear hK7 K7; clear hK6 K6; clear hK5 K5; clear hK4 K4; clear hK2 K2; clear hK1 K1; clear hK0 K0; simp at *; done))
      | (
       refine SW.seq_k fun K8 hK8 => ?_
       refine SW.region _ _ _ _ ?_
       refine RL.s ?_
       first | refine NV.buildc T rfl (rfl : _ = some [_, _]) ?_ | refine NV.buildz T rfl (rfl : _ = some [_, _]) ?_ | refine NV.pure T (rfl : _ = some (Value.agg #[_, _])) ?_
       refine RL.s ?_
       refine NV.sN T rfl rfl rfl (by exact (rfl : _ = [_, _])) (by exact (rfl : _ = [_, _])) ?_
       refine RL.p T ?_
       refine RL.p T ?_
       refine RL.nil _ _ _ _ ?_
       refine hK8 _ _ _ ?_
       refine SW.sat (fun hs => ?_)
       refine SW.ret ?_
       refine retQ.ra (H) (RVs.cN T rfl rfl rfl rfl (by exact (rfl : _ = [_, _])) (RVs.t (RVs.t RVs.nil))) ?_
       clear hK8 K8 hK7 K7 hK6 K6 hK5 K5 hK4 K4 hK2 K2 hK1 K1 hK0 K0
       exact ⟨[], default, (by rw [first_short2 (by omega) (by omega)]; rfl), rfl, PdOk.dflt, (by rw [first_short2 (by omega) (by omega)]; rfl)⟩
       )
    ·skip
     first
      | (exfalso; first | omega | contradiction | (clear hK7 K7; clear hK6 K6; clear hK5 K5; clear hK4 K4; clear hK2 K2; clear hK1 K1; clear hK0 K0; simp at *; done))
      | (
       refine SW.seq_k fun K9 hK9 => ?_
       refine SW.region _ _ _ _ ?_
       refine RL.p T ?_
       refine RL.sl T ?_ (l1 := 6) (h1 := 8) (hR := fun hs => hR.cons)
       refine RL.c fun26 (fun hs => zeroB _ _ _ ((es.drop 6).take (8 - 6)) (Rd.seg 6 8 hR.cons (by omega) (by omega)) (by rw [List.length_take, List.length_drop]; omega) (by omega)) ?_
       rintro _ _ ⟨rfl, e⟩; obtain rfl := e.symm
       refine RL.p T ?_
       refine RL.p T ?_
       refine RL.join (fr1 := ?_) 7 35 false [36, 37, 38, 39, 40, 41, 42] (fun hs0 hj => ?_) ?_ ?_
       rotate_left
       ·have hs0j := hs0
        try simp only [decide_eq_true_eq, Bool.not_eq_true', decide_eq_false_iff_not, Bool.not_eq_false', Int.not_lt, Int.not_le, Int.toNat_natCast, Bool.and_eq_true, Bool.or_eq_true, Bool.and_eq_false_iff, Bool.or_eq_false_iff] at hs0
        refine RL.p T ?_
        refine RL.p T ?_
        first | refine RL.ar ?_ | refine RL.p T ?_
        refine RL.p T ?_
        refine RL.sl T ?_ (l1 := 8 + lenB es) (h1 := wholeN (lenB es)) (hR := fun hs => hR.cons)
        refine RL.c fun26 (fun hs => zeroB _ _ _ ((es.drop (8 + lenB es)).take (wholeN (lenB es) - (8 + lenB es))) (Rd.seg (8 + lenB es) (wholeN (lenB es)) hR.cons (by omega) (by omega)) (by rw [List.length_take, List.length_drop]; omega) (by omega)) ?_
        rintro _ _ ⟨rfl, e⟩; obtain rfl := e.symm
        refine RL.p T ?_
        exact hj
       ·repeat first | with_reducible exact Mx.refl | with_reducible exact Mx.mix | refine Mx.put rfl ?_ | refine Mx.upd rfl ?_ | refine Mx.updl rfl ?_ | refine Mx.fin rfl ?_ | refine Mx.inner rfl ?_ | refine Mx.none ?_ | exact Mx.refl | exact Mx.mix
       refine RL.or ?_
       refine RL.p T ?_
       refine RL.nil _ _ _ _ ?_
       refine hK9 _ _ _ ?_
       refine SW.cs (fun hc2 => ?_) (fun hc2 => ?_)
       ·skip
        first
         | (exfalso; first | omega | contradiction | (clear hK9 K9; clear hK7 K7; clear hK6 K6; clear hK5 K5; clear hK4 K4; clear hK2 K2; clear hK1 K1; clear hK0 K0; simp at *; done))
         | (
          refine SW.seq_k fun K10 hK10 => ?_
          refine SW.region _ _ _ _ ?_
          refine RL.s ?_
          first | refine NV.buildc T rfl (rfl : _ = some [_, _]) ?_ | refine NV.buildz T rfl (rfl : _ = some [_, _]) ?_ | refine NV.pure T (rfl : _ = some (Value.agg #[_, _])) ?_
          refine RL.s ?_
          refine NV.sN T rfl rfl rfl (by exact (rfl : _ = [_, _])) (by exact (rfl : _ = [_, _])) ?_
          refine RL.p T ?_
          refine RL.p T ?_
          refine RL.nil _ _ _ _ ?_
          refine hK10 _ _ _ ?_
          refine SW.sat (fun hs => ?_)
          refine SW.ret ?_
          refine retQ.ra (H) (RVs.cN T rfl rfl rfl rfl (by exact (rfl : _ = [_, _])) (RVs.t (RVs.t RVs.nil))) ?_
          clear hK10 K10 hK9 K9 hK7 K7 hK6 K6 hK5 K5 hK4 K4 hK2 K2 hK1 K1 hK0 K0
          have hf := first_form (es := es) (by omega) (by omega) (by first | exact hc2 | exact hc3 | exact hc1)
          exact ⟨[], default, (by rw [hf]; rfl), rfl, PdOk.dflt, (by rw [hf]; rfl)⟩
          )
       ·skip
        first
         | (exfalso; first | omega | contradiction | (clear hK9 K9; clear hK7 K7; clear hK6 K6; clear hK5 K5; clear hK4 K4; clear hK2 K2; clear hK1 K1; clear hK0 K0; simp at *; done))
         | (
          refine SW.skip ?_
          refine hK6 _ _ _ ?_
          refine SW.seq_k fun K11 hK11 => ?_
          refine SW.drawQ [(45, 0), (46, 1), (47, 2), (48, 3), (49, 4), (50, 5), (51, 6), (52, 7), (53, 8), (54, 9), (55, 10), (56, 11), (57, 12), (58, 13), (59, 14), (60, 15), (61, 16), (62, 17), (63, 18), (64, 19), (65, 20), (66, 21), (7, 22)] [[], [0], [1, 0], [2, 1, 0], [3, 2, 1, 0], [], [5], [6, 5], [7, 6, 5], [8, 7, 6, 5], [4, 3, 2, 1, 0, 9, 8, 7, 6, 5], [], [11], [12, 11], [13, 12, 11], [14, 13, 12, 11], [10, 4, 3, 2, 1, 0, 9, 8, 7, 6, 5, 15, 14, 13, 12, 11], [], [17], [18, 17], [19, 18, 17], [16, 10, 4, 3, 2, 1, 0, 9, 8, 7, 6, 5, 15, 14, 13, 12, 11, 20, 19, 18, 17], [21, 16, 10, 4, 3, 2, 1, 0, 9, 8, 7, 6, 5, 15, 14, 13, 12, 11, 20, 19, 18, 17]] mixed (by kernel_rfl) (by kernel_rfl) ?_
          refine QL.p T ?_
          refine QL.ix T ?_ (hR := fun hs => hR.cons)
          refine QL.le T ?_ (hR := fun hs => hR.cons)
          first | refine QL.cv T ?_ | refine QL.p T ?_ | refine QL.ts T ?_
          refine QL.step (by first | exact Gd.none rfl | exact Gd.yes rfl rfl | exact Gd.yes rfl (congrArg Value.bool (by assumption))) rfl (QV.shlP (s := 24) rfl rfl rfl rfl rfl (by simp only [loK]; omega) (by simp only [hiK]; omega)) ?_
          refine QL.p T ?_
          refine QL.ix T ?_ (hR := fun hs => hR.cons)
          refine QL.le T ?_ (hR := fun hs => hR.cons)
          first | refine QL.cv T ?_ | refine QL.p T ?_ | refine QL.ts T ?_
          refine QL.step (by first | exact Gd.none rfl | exact Gd.yes rfl rfl | exact Gd.yes rfl (congrArg Value.bool (by assumption))) rfl (QV.shlP (s := 16) rfl rfl rfl rfl rfl (by simp only [loK]; omega) (by simp only [hiK]; omega)) ?_
          refine QL.step (by first | exact Gd.none rfl | exact Gd.yes rfl rfl | exact Gd.yes rfl (congrArg Value.bool (by assumption))) rfl (QV.orA T (es.getD (Int.toNat 0) 0).toNat 24 rfl rfl rfl (by rw [Int.toNat_of_nonneg (by omega)]; try omega) (by omega) (by omega) (by simp only [hiK]; omega)) ?_
          refine QL.p T ?_
          refine QL.ix T ?_ (hR := fun hs => hR.cons)
          refine QL.le T ?_ (hR := fun hs => hR.cons)
          first | refine QL.cv T ?_ | refine QL.p T ?_ | refine QL.ts T ?_
          refine QL.step (by first | exact Gd.none rfl | exact Gd.yes rfl rfl | exact Gd.yes rfl (congrArg Value.bool (by assumption))) rfl (QV.shlP (s := 8) rfl rfl rfl rfl rfl (by simp only [loK]; omega) (by simp only [hiK]; omega)) ?_
          refine QL.step (by first | exact Gd.none rfl | exact Gd.yes rfl rfl | exact Gd.yes rfl (congrArg Value.bool (by assumption))) rfl (QV.orA T (es.getD (Int.toNat 0) 0 * 2 ^ 8 + es.getD (Int.toNat 1) 0).toNat 16 rfl rfl rfl (by rw [Int.toNat_of_nonneg (by omega)]; try omega) (by omega) (by omega) (by simp only [hiK]; omega)) ?_
          refine QL.p T ?_
          refine QL.ix T ?_ (hR := fun hs => hR.cons)
          refine QL.le T ?_ (hR := fun hs => hR.cons)
          first | refine QL.cv T ?_ | refine QL.p T ?_ | refine QL.ts T ?_
          refine QL.step (by first | exact Gd.none rfl | exact Gd.yes rfl rfl | exact Gd.yes rfl (congrArg Value.bool (by assumption))) rfl (QV.as (QV.orA T (es.getD (Int.toNat 0) 0 * 2 ^ 16 + es.getD (Int.toNat 1) 0 * 2 ^ 8 + es.getD (Int.toNat 2) 0).toNat 8 rfl rfl rfl (by rw [Int.toNat_of_nonneg (by omega)]; try omega) (by omega) (by omega) (by simp only [hiK]; omega)) (show Value.int .u32 (es.getD (Int.toNat 0) 0 * 2 ^ 24 + es.getD (Int.toNat 1) 0 * 2 ^ 16 + es.getD (Int.toNat 2) 0 * 2 ^ 8 + es.getD (Int.toNat 3) 0) = .int .u32 (idB es) from by rw [← idB_eq]; rfl)) ?_
          refine QL.p T ?_
          refine QL.nil ?_
          refine hK11 _ _ _ ?_
          refine SW.seq_k fun K12 hK12 => ?_
          refine SW.region _ _ _ _ ?_
          refine RL.p T ?_
          refine RL.p T ?_
          refine RL.p T ?_
          first | refine RL.ar ?_ | refine RL.p T ?_
          refine RL.sl T ?_ (l1 := 8) (h1 := 8 + lenB es) (hR := fun hs => hR.cons)
          refine RL.c fun27 (fun hs => sclone _ _ _ ((es.drop 8).take (8 + lenB es - 8)) (Rd.seg 8 (8 + lenB es) hR.cons (by omega) (by omega)) (by rw [List.length_take, List.length_drop]; omega) (by omega)) ?_
          rintro _ _ ⟨aC, cC, rfl, e⟩; obtain rfl := e.symm
          refine RL.s ?_
          first | refine NV.buildc T rfl (rfl : _ = some [_, _]) ?_ | refine NV.buildz T rfl (rfl : _ = some [_, _]) ?_ | refine NV.pure T (rfl : _ = some (Value.agg #[_, _])) ?_
          refine RL.p T ?_
          refine RL.s ?_
          refine NV.sN T rfl rfl rfl (by exact (rfl : _ = [_, _])) (by exact (rfl : _ = [_, _])) ?_
          refine RL.p T ?_
          refine RL.p T ?_
          refine RL.nil _ _ _ _ ?_
          refine hK12 _ _ _ ?_
          refine SW.sat (fun hs => ?_)
          refine SW.ret ?_
          refine retQ.ra ((.row aC (8 + lenB es - 8) cC 5 1 (List.map (Value.int .u8) ((es.drop 8).take (8 + lenB es - 8))) :: H)) (RVs.cN T rfl rfl rfl rfl (by exact (rfl : _ = [_, _])) (RVs.t (RVs.t RVs.nil))) ?_
          clear hK12 K12 hK11 K11 hK9 K9 hK7 K7 hK6 K6 hK5 K5 hK4 K4 hK2 K2 hK1 K1 hK0 K0
          have hlt : 8 + lenB es - 8 = lenB es := by omega
          rw [hlt] at hs ⊢
          have hf := first_ok (es := es) (by omega) (by omega) (by first | exact hc2.1 | exact hc3.1 | exact hc1.1) (by first | exact hc2.2 | exact hc3.2 | exact hc1.2)
          refine ⟨[.row aC (lenB es) cC 5 1 (List.map (Value.int .u8) ((es.drop 8).take (lenB es)))], (⟨idB es, (es.drop 8).take (lenB es), aC, lenB es, cC⟩ : Pd), (by rw [hf]; rfl), rfl, ⟨hir, (by show lenB es = _; rw [List.length_take, List.length_drop]; omega), (by show lenB es ≤ _; omega), hB.seg _ _, Rd.rowh (satT (H0 := [.row aC (lenB es) cC 5 1 (List.map (Value.int .u8) ((es.drop 8).take (lenB es)))]) hs) (At.head _ _)⟩, (by rw [hf]; rfl)⟩
          )
       )
    )
end Go.Proofs.YthigfghfpmpiiaaDoor.M
