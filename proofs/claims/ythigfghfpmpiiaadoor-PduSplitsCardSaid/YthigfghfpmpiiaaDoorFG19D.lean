import Derived.Test.YthigfghfpmpiiaaDoorProg
import Derived.Test.YthigfghfpmpiiaaDoorFF19D
import Derived.Test.YthigfghfpmpiiaaDoorP19h
import Derived.Test.YthigfghfpmpiiaaDoorS26
set_option linter.unusedVariables false
set_option linter.unusedSimpArgs false
namespace Go.Proofs.YthigfghfpmpiiaaDoor.M
open Go Go.Sep Go.Proofs
set_option maxRecDepth 10000
set_option maxHeartbeats 2000000
theorem fun23q : Fun Tryd.prog 23 := Fun.mk Tryd.func23 (by kernel_rfl) (by kernel_rfl)
theorem first_five {es : List Int} (h8 : 8 ≤ es.length) (hw : wholeN (lenB es) ≤ es.length) (h : (firstS es).2.2 ≠ 0) : (firstS es).2.2 = 5 := by
  unfold firstS at *
  rw [if_neg (by omega), if_neg (by omega)] at *
  split
  · rename_i g; rw [if_pos g] at h; exact absurd rfl h
  · rfl
theorem rsplit {w0 : World} {H : List Chunk} (sa : Option Addr) (n c : Nat) (es : List Int) (hR : Rd w0 H sa n c 1 (es.map (.int .u8))) (hn : n = es.length) (hm : n ≤ 140737488351232) (hB : Byte es) : SC Tryd.prog w0 17 #[.slice sa n c] H (fun v H' => ∃ D a c' ps, v = .tuple #[.slice a ps.length c', .int .i64 (splitV es).2] ∧ H' = .row a ps.length c' 35 2 (List.flatMap PdC ps) :: (D ++ H) ∧ mg ps = (splitV es).1 ∧ (∀ y ∈ ps, PdOk w0 D y)) := by
 refine SC.enter Tryd.func17 rfl (Nat.le_of_ble_eq_true rfl) ?_
 refine SW.seq_k fun K0 hK0 => ?_
 refine SW.region _ _ _ _ ?_
 refine RL.p T ?_
 refine RL.p T ?_
 refine RL.nil _ _ _ _ ?_
 refine hK0 _ _ _ ?_
 refine SW.seq_k fun K1 hK1 => ?_
 refine SW.seq_k fun K2 hK2 => ?_
 refine SW.region _ _ _ _ ?_
 refine RL.p T ?_
 refine RL.p T ?_
 refine RL.p T ?_
 refine RL.nil _ _ _ _ ?_
 refine hK2 _ _ _ ?_
 refine SW.cs (fun hc0 => ?_) (fun hc0 => ?_)
 ·skip
  first
   | (exfalso; first | omega | contradiction | (clear hK2 K2; clear hK1 K1; clear hK0 K0; simp at *; done))
   | (
    refine SW.seq_k fun K3 hK3 => ?_
    refine SW.nilrow 35 2 ?_
    refine SW.region _ _ _ _ ?_
    refine RL.p T ?_
    refine RL.p T ?_
    refine RL.nil _ _ _ _ ?_
    refine hK3 _ _ _ ?_
    refine SW.ret ?_
    refine retQ.wk ((.row none 0 0 35 2 [] :: H)) ?_
    refine retQ.rr _ ?_ (hH := fun w hw => hw)
    clear hK3 K3 hK2 K2 hK1 K1 hK0 K0
    have hv : splitV es = ([], 9) := if_pos (List.eq_nil_of_length_eq_zero (by omega))
    exact ⟨[], none, 0, [], (by rw [hv]; rfl), rfl, (by rw [hv]; rfl), by simp⟩
    )
 ·skip
  first
   | (exfalso; first | omega | contradiction | (clear hK2 K2; clear hK1 K1; clear hK0 K0; simp at *; done))
   | (
    refine SW.skip ?_
    refine hK1 _ _ _ ?_
    refine SW.seq_k fun K4 hK4 => ?_
    refine SW.seq_k fun K5 hK5 => ?_
    refine SW.region _ _ _ _ ?_
    refine RL.p T ?_
    refine RL.p T ?_
    refine RL.p T ?_
    refine RL.nil _ _ _ _ ?_
    refine hK5 _ _ _ ?_
    refine SW.cs (fun hc1 => ?_) (fun hc1 => ?_)
    ·skip
     first
      | (exfalso; first | omega | contradiction | (clear hK5 K5; clear hK4 K4; clear hK2 K2; clear hK1 K1; clear hK0 K0; simp at *; done))
      | (
       refine SW.seq_k fun K6 hK6 => ?_
       refine SW.nilrow 35 2 ?_
       refine SW.region _ _ _ _ ?_
       refine RL.p T ?_
       refine RL.p T ?_
       refine RL.nil _ _ _ _ ?_
       refine hK6 _ _ _ ?_
       refine SW.ret ?_
       refine retQ.wk ((.row none 0 0 35 2 [] :: H)) ?_
       refine retQ.rr _ ?_ (hH := fun w hw => hw)
       clear hK6 K6 hK5 K5 hK4 K4 hK2 K2 hK1 K1 hK0 K0
       have hv : splitV es = ([], 2) := by
         rw [splitV, if_neg (fun e => by have h0 : es.length = 0 := by rw [e]; rfl
                                         omega), if_pos (by omega)]
       exact ⟨[], none, 0, [], (by rw [hv]; rfl), rfl, (by rw [hv]; rfl), by simp⟩
       )
    ·skip
     first
      | (exfalso; first | omega | contradiction | (clear hK5 K5; clear hK4 K4; clear hK2 K2; clear hK1 K1; clear hK0 K0; simp at *; done))
      | (
       refine SW.skip ?_
       refine hK4 _ _ _ ?_
       refine SW.seq_k fun K7 hK7 => ?_
       refine SW.nilrow 35 2 ?_
       have hne : es ≠ [] := fun e => by
         have h0 : es.length = 0 := by rw [e]; rfl
         omega
       have hsv : splitV es = splitF es.length es [] := by rw [splitV, if_neg hne, if_neg (by omega)]
       refine SW.region _ _ _ _ ?_
       refine RL.p T ?_
       refine RL.nil _ _ _ _ ?_
       refine hK7 _ _ _ ?_
       refine SW.seq_k fun K8 hK8 => ?_
       refine SW.block ?_
       refine SW.loopM (fun frB mm fr ds HH => ∃ (o k m : Nat) (a oa : Option Addr) (c' oc : Nat) (ps : List Pd) (G : List Chunk) (f : Nat), mm = n - o ∧ (o ≤ n ∧ m = n - o ∧ Rd w0 H a m c' 1 ((es.drop o).map (.int .u8)) ∧ (k = ps.length ∧ 8 * k ≤ o) ∧ (∀ y ∈ ps, PdOk w0 G y) ∧ n - o ≤ f ∧ splitF es.length es [] = splitF f (es.drop o) (mg ps)) ∧ FrIs [0, 2, 3, 4, 5, 6, 7, 14, 15, 16, 17, 18, 19, 20, 21, 22, 23, 24, 25, 26, 27, 28, 29, 30, 31, 32, 33, 34, 35, 36, 37, 38, 39, 40, 41, 42, 43, 44, 45, 46, 47, 48, 49, 50, 51, 52, 53, 54, 55, 56, 57, 58, 59, 60, 61, 62, 63, 64, 65, 66, 67, 68, 69, 70, 71, 72, 73, 74, 75, 76, 77, 78, 79, 80, 81] frB fr [(0, .slice a m c'), (4, .slice oa k oc)] ∧ ds = [] ∧ HH = (.row oa k oc 35 2 (List.flatMap PdC ps) :: (G ++ H))) (n := n - 0) ?_ ?_
       ·exact ⟨0, 0, n, sa, none, c, 0, [], [], es.length, rfl, ⟨Nat.zero_le _, rfl, hR, ⟨rfl, Nat.zero_le _⟩, (fun _ h => by cases h), by omega, rfl⟩, (.cons rfl (.cons rfl (.nil (by repeat first | with_reducible exact Mx.refl | with_reducible exact Mx.mix | refine Mx.put rfl ?_ | refine Mx.upd rfl ?_ | refine Mx.updl rfl ?_ | refine Mx.fin rfl ?_ | refine Mx.inner rfl ?_ | refine Mx.none ?_ | exact Mx.refl | exact Mx.mix)))), rfl, rfl⟩
       ·rintro mm fr ds HH ⟨o, k, m, a, oa, c', oc, ps, G, f, rfl, ⟨ho, hmo, hRk, ⟨hkp, h8k⟩, hps, hfl, hsf⟩, hFr, rfl, eHH⟩
        obtain rfl := eHH.symm
        obtain ⟨frU, rfl⟩ := hFr.eq
        clear hFr
        have hBo : Byte (es.drop o) := hB.drop o
        have hdl : (es.drop o).length = es.length - o := List.length_drop
        have hE4 := hBo.get (Int.toNat 4)
        have hE5 := hBo.get (Int.toNat 5)
        have hE0 := hBo.get (Int.toNat 0)
        have hE1 := hBo.get (Int.toNat 1)
        have hE2 := hBo.get (Int.toNat 2)
        have hE3 := hBo.get (Int.toNat 3)
        have hwg := whole_ge (lenB (es.drop o))
        have hlm := lenB_max hBo
        have hir := idB_rng hBo
        refine SW.seq_k fun K9 hK9 => ?_
        refine SW.seq_k fun K10 hK10 => ?_
        refine SW.region _ _ _ _ ?_
        refine RL.p T ?_
        refine RL.p T ?_
        refine RL.p T ?_
        refine RL.nil _ _ _ _ ?_
        refine hK10 _ _ _ ?_
        refine SW.cs (fun hc2 => ?_) (fun hc2 => ?_)
        ·skip
         first
          | (exfalso; first | omega | contradiction | (clear hK10 K10; clear hK9 K9; clear hK8 K8; clear hK7 K7; clear hK5 K5; clear hK4 K4; clear hK2 K2; clear hK1 K1; clear hK0 K0; simp at *; done))
          | (
           refine SW.skip ?_
           refine hK9 _ _ _ ?_
           refine SW.block ?_
           refine SW.seq_k fun K11 hK11 => ?_
           refine SW.seq_k fun K12 hK12 => ?_
           obtain ⟨f1, rfl⟩ : ∃ f1, f = f1 + 1 := ⟨f - 1, by omega⟩
           have hdn : es.drop o ≠ [] := fun e => by
             rw [e] at hdl; simp at hdl; omega
           refine SW.region _ _ _ _ ?_
           refine RL.p T ?_
           refine RL.p T ?_
           refine RL.p T ?_
           refine RL.nil _ _ _ _ ?_
           refine hK12 _ _ _ ?_
           refine SW.cs (fun hc3 => ?_) (fun hc3 => ?_)
           ·skip
            first
             | (exfalso; first | omega | contradiction | (clear hK12 K12; clear hK11 K11; clear hK10 K10; clear hK9 K9; clear hK8 K8; clear hK7 K7; clear hK5 K5; clear hK4 K4; clear hK2 K2; clear hK1 K1; clear hK0 K0; simp at *; done))
             | (
              refine SW.seq_k fun K13 hK13 => ?_
              refine SW.nilrow 35 2 ?_
              refine SW.region _ _ _ _ ?_
              refine RL.p T ?_
              refine RL.p T ?_
              refine RL.nil _ _ _ _ ?_
              refine hK13 _ _ _ ?_
              refine SW.ret ?_
              refine retQ.wk ((.row none 0 0 35 2 [] :: H)) ?_
              refine retQ.rr _ ?_ (hH := fun w hw => hw)
              clear hK13 K13 hK12 K12 hK11 K11 hK10 K10 hK9 K9 hK8 K8 hK7 K7 hK5 K5 hK4 K4 hK2 K2 hK1 K1 hK0 K0
              have he := first_short (es := es.drop o) (by omega)
              have hv : splitV es = ([], 3) := by rw [hsv, hsf, splitF_bad hdn (by rw [he]; decide), he]
              exact ⟨[], none, 0, [], (by rw [hv]; rfl), rfl, (by rw [hv]; rfl), by simp⟩
              )
           ·skip
            first
             | (exfalso; first | omega | contradiction | (clear hK12 K12; clear hK11 K11; clear hK10 K10; clear hK9 K9; clear hK8 K8; clear hK7 K7; clear hK5 K5; clear hK4 K4; clear hK2 K2; clear hK1 K1; clear hK0 K0; simp at *; done))
             | (
              refine SW.skip ?_
              refine hK11 _ _ _ ?_
              refine SW.seq_k fun K14 hK14 => ?_
              refine SW.drawQ [(20, 0), (21, 1), (22, 2), (23, 3), (24, 4), (25, 5), (26, 6), (27, 7), (28, 8), (29, 9), (5, 10)] [[], [0], [1, 0], [2, 1, 0], [3, 2, 1, 0], [], [5], [6, 5], [7, 6, 5], [4, 3, 2, 1, 0, 8, 7, 6, 5], [9, 4, 3, 2, 1, 0, 8, 7, 6, 5]] mixed (by kernel_rfl) (by kernel_rfl) ?_
              refine QL.p T ?_
              refine QL.ix T ?_ (hR := fun hs => (by repeat first | exact hRk | apply Rd.cons | apply Rd.app))
              refine QL.le T ?_ (hR := fun hs => (by repeat first | exact hRk | apply Rd.cons | apply Rd.app))
              first | refine QL.cv T ?_ | refine QL.p T ?_ | refine QL.ts T ?_
              first | refine QL.ar ?_ | refine QL.p T ?_
              refine QL.p T ?_
              refine QL.ix T ?_ (hR := fun hs => (by repeat first | exact hRk | apply Rd.cons | apply Rd.app))
              refine QL.le T ?_ (hR := fun hs => (by repeat first | exact hRk | apply Rd.cons | apply Rd.app))
              first | refine QL.cv T ?_ | refine QL.p T ?_ | refine QL.ts T ?_
              refine QL.step (by first | exact Gd.none rfl | exact Gd.yes rfl rfl | exact Gd.yes rfl (congrArg Value.bool (by assumption))) rfl (QV.as (QV.arith rfl rfl rfl rfl (by omega) (by omega)) (show Value.int .i64 ((es.drop o).getD (Int.toNat 4) 0 * 256 + (es.drop o).getD (Int.toNat 5) 0) = .int .i64 ((lenB (es.drop o) : Nat) : Int) from congrArg _ (by have h9 : lenB (es.drop o) = ((es.drop o).getD (Int.toNat 4) 0 * 256 + (es.drop o).getD (Int.toNat 5) 0).toNat := rfl; omega))) ?_
              refine QL.p T ?_
              refine QL.nil ?_
              refine hK14 _ _ _ ?_
              refine SW.seq_k fun K15 hK15 => ?_
              refine SW.region _ _ _ _ ?_
              refine RL.p T ?_
              first | refine RL.ar ?_ | refine RL.p T ?_
              first | refine RL.ar ?_ | refine RL.p T ?_
              first | refine RL.q (QV.quoP rfl rfl rfl (by omega) (by omega) (by simp only [hiK]; omega)) ?_ | refine RL.q (QV.quo rfl rfl rfl (by omega) rfl) ?_
              refine RL.q (QV.as (QV.arith rfl rfl rfl rfl (by omega) (by omega)) (show _ = Value.int .i64 ((wholeN (lenB (es.drop o)) : Nat) : Int) from congrArg _ (by have h9 := whole_eq (lenB (es.drop o)); omega))) ?_
              refine RL.p T ?_
              refine RL.nil _ _ _ _ ?_
              refine hK15 _ _ _ ?_
              refine SW.seq_k fun K16 hK16 => ?_
              refine SW.seq_k fun K17 hK17 => ?_
              refine SW.region _ _ _ _ ?_
              refine RL.p T ?_
              refine RL.p T ?_
              refine RL.p T ?_
              refine RL.p T ?_
              refine RL.nil _ _ _ _ ?_
              refine hK17 _ _ _ ?_
              refine SW.cs (fun hc4 => ?_) (fun hc4 => ?_)
              ·skip
               first
                | (exfalso; first | omega | contradiction | (clear hK17 K17; clear hK16 K16; clear hK15 K15; clear hK14 K14; clear hK12 K12; clear hK11 K11; clear hK10 K10; clear hK9 K9; clear hK8 K8; clear hK7 K7; clear hK5 K5; clear hK4 K4; clear hK2 K2; clear hK1 K1; clear hK0 K0; simp at *; done))
                | (
                 refine SW.seq_k fun K18 hK18 => ?_
                 refine SW.nilrow 35 2 ?_
                 refine SW.region _ _ _ _ ?_
                 refine RL.p T ?_
                 refine RL.p T ?_
                 refine RL.nil _ _ _ _ ?_
                 refine hK18 _ _ _ ?_
                 refine SW.ret ?_
                 refine retQ.wk ((.row none 0 0 35 2 [] :: H)) ?_
                 refine retQ.rr _ ?_ (hH := fun w hw => hw)
                 clear hK18 K18 hK17 K17 hK16 K16 hK15 K15 hK14 K14 hK12 K12 hK11 K11 hK10 K10 hK9 K9 hK8 K8 hK7 K7 hK5 K5 hK4 K4 hK2 K2 hK1 K1 hK0 K0
                 have he := first_short2 (es := es.drop o) (by omega) (by omega)
                 have hv : splitV es = ([], 3) := by rw [hsv, hsf, splitF_bad hdn (by rw [he]; decide), he]
                 exact ⟨[], none, 0, [], (by rw [hv]; rfl), rfl, (by rw [hv]; rfl), by simp⟩
                 )
              ·skip
               first
                | (exfalso; first | omega | contradiction | (clear hK17 K17; clear hK16 K16; clear hK15 K15; clear hK14 K14; clear hK12 K12; clear hK11 K11; clear hK10 K10; clear hK9 K9; clear hK8 K8; clear hK7 K7; clear hK5 K5; clear hK4 K4; clear hK2 K2; clear hK1 K1; clear hK0 K0; simp at *; done))
                | (
                 refine SW.skip ?_
                 refine hK16 _ _ _ ?_
                 refine SW.seq_k fun K19 hK19 => ?_
                 refine SW.draw [(39, 0), (40, 1), (41, 2), (42, 3), (43, 4), (44, 5), (45, 6), (46, 7), (47, 8), (48, 9), (49, 10), (50, 11), (51, 12), (52, 13), (53, 14), (54, 15), (55, 16), (56, 17), (57, 18), (58, 19), (59, 20), (60, 21), (61, 22), (62, 23), (63, 24), (64, 25), (65, 26), (66, 27), (67, 28), (7, 29)] [[], [0], [1, 0], [2, 1, 0], [3, 2, 1, 0], [], [5], [6, 5], [7, 6, 5], [8, 7, 6, 5], [4, 3, 2, 1, 0, 9, 8, 7, 6, 5], [], [11], [12, 11], [13, 12, 11], [14, 13, 12, 11], [10, 4, 3, 2, 1, 0, 9, 8, 7, 6, 5, 15, 14, 13, 12, 11], [], [17], [18, 17], [19, 18, 17], [16, 10, 4, 3, 2, 1, 0, 9, 8, 7, 6, 5, 15, 14, 13, 12, 11, 20, 19, 18, 17], [], [], [], [24], [23, 25, 24], [22, 26, 23, 25, 24], [21, 16, 10, 4, 3, 2, 1, 0, 9, 8, 7, 6, 5, 15, 14, 13, 12, 11, 20, 19, 18, 17, 27, 22, 26, 23, 25, 24], [], [29, 28, 21, 16, 10, 4, 3, 2, 1, 0, 9, 8, 7, 6, 5, 15, 14, 13, 12, 11, 20, 19, 18, 17, 27, 22, 26, 23, 25, 24]] mixed (by kernel_rfl) (by kernel_rfl) ?_
                 refine RD.p T ?_
                 refine RD.q rfl rfl (Gd.none rfl) (by first | exact QV.indexAddr_array T rfl rfl rfl rfl rfl (by omega) (by omega) | exact QV.indexAddr_slice T rfl rfl rfl rfl rfl (Rd.some (by repeat first | exact hRk | apply Rd.cons | apply Rd.app) (by omega)) (by omega) (by omega)) ?_
                 refine RD.q rfl rfl (Gd.none rfl) (by first | exact QV.load_var1 T rfl rfl rfl rfl (by repeat first | exact At.head _ _ | assumption | exact At.put (by assumption) _ | apply At.tail | apply At.app) rfl | exact QV.load_varN T rfl rfl rfl rfl rfl (by repeat first | exact At.head _ _ | assumption | exact At.put (by assumption) _ | apply At.tail | apply At.app) (by exact (rfl : _ = [_])) rfl | exact QV.load_elem T rfl rfl rfl rfl (by repeat first | exact hRk | apply Rd.cons | apply Rd.app) (by first | exact map_get _ _ (by omega) | assumption)) ?_
                 refine RD.q rfl rfl (Gd.none rfl) (QV.convI T rfl rfl rfl rfl (by simp only [loK]; omega) (by simp only [hiK]; omega)) ?_
                 refine RD.q rfl rfl (Gd.none rfl) (QV.shlP (s := 24) rfl rfl rfl rfl rfl (by simp only [loK]; omega) (by simp only [hiK]; omega)) ?_
                 refine RD.p T ?_
                 refine RD.q rfl rfl (Gd.none rfl) (by first | exact QV.indexAddr_array T rfl rfl rfl rfl rfl (by omega) (by omega) | exact QV.indexAddr_slice T rfl rfl rfl rfl rfl (Rd.some (by repeat first | exact hRk | apply Rd.cons | apply Rd.app) (by omega)) (by omega) (by omega)) ?_
                 refine RD.q rfl rfl (Gd.none rfl) (by first | exact QV.load_var1 T rfl rfl rfl rfl (by repeat first | exact At.head _ _ | assumption | exact At.put (by assumption) _ | apply At.tail | apply At.app) rfl | exact QV.load_varN T rfl rfl rfl rfl rfl (by repeat first | exact At.head _ _ | assumption | exact At.put (by assumption) _ | apply At.tail | apply At.app) (by exact (rfl : _ = [_])) rfl | exact QV.load_elem T rfl rfl rfl rfl (by repeat first | exact hRk | apply Rd.cons | apply Rd.app) (by first | exact map_get _ _ (by omega) | assumption)) ?_
                 refine RD.q rfl rfl (Gd.none rfl) (QV.convI T rfl rfl rfl rfl (by simp only [loK]; omega) (by simp only [hiK]; omega)) ?_
                 refine RD.q rfl rfl (Gd.none rfl) (QV.shlP (s := 16) rfl rfl rfl rfl rfl (by simp only [loK]; omega) (by simp only [hiK]; omega)) ?_
                 refine RD.q rfl rfl (Gd.none rfl) (QV.orA T ((es.drop o).getD (Int.toNat 0) 0).toNat 24 rfl rfl rfl (by rw [Int.toNat_of_nonneg (by omega)]; try omega) (by omega) (by omega) (by simp only [hiK]; omega)) ?_
                 refine RD.p T ?_
                 refine RD.q rfl rfl (Gd.none rfl) (by first | exact QV.indexAddr_array T rfl rfl rfl rfl rfl (by omega) (by omega) | exact QV.indexAddr_slice T rfl rfl rfl rfl rfl (Rd.some (by repeat first | exact hRk | apply Rd.cons | apply Rd.app) (by omega)) (by omega) (by omega)) ?_
                 refine RD.q rfl rfl (Gd.none rfl) (by first | exact QV.load_var1 T rfl rfl rfl rfl (by repeat first | exact At.head _ _ | assumption | exact At.put (by assumption) _ | apply At.tail | apply At.app) rfl | exact QV.load_varN T rfl rfl rfl rfl rfl (by repeat first | exact At.head _ _ | assumption | exact At.put (by assumption) _ | apply At.tail | apply At.app) (by exact (rfl : _ = [_])) rfl | exact QV.load_elem T rfl rfl rfl rfl (by repeat first | exact hRk | apply Rd.cons | apply Rd.app) (by first | exact map_get _ _ (by omega) | assumption)) ?_
                 refine RD.q rfl rfl (Gd.none rfl) (QV.convI T rfl rfl rfl rfl (by simp only [loK]; omega) (by simp only [hiK]; omega)) ?_
                 refine RD.q rfl rfl (Gd.none rfl) (QV.shlP (s := 8) rfl rfl rfl rfl rfl (by simp only [loK]; omega) (by simp only [hiK]; omega)) ?_
                 refine RD.q rfl rfl (Gd.none rfl) (QV.orA T ((es.drop o).getD (Int.toNat 0) 0 * 2 ^ 8 + (es.drop o).getD (Int.toNat 1) 0).toNat 16 rfl rfl rfl (by rw [Int.toNat_of_nonneg (by omega)]; try omega) (by omega) (by omega) (by simp only [hiK]; omega)) ?_
                 refine RD.p T ?_
                 refine RD.q rfl rfl (Gd.none rfl) (by first | exact QV.indexAddr_array T rfl rfl rfl rfl rfl (by omega) (by omega) | exact QV.indexAddr_slice T rfl rfl rfl rfl rfl (Rd.some (by repeat first | exact hRk | apply Rd.cons | apply Rd.app) (by omega)) (by omega) (by omega)) ?_
                 refine RD.q rfl rfl (Gd.none rfl) (by first | exact QV.load_var1 T rfl rfl rfl rfl (by repeat first | exact At.head _ _ | assumption | exact At.put (by assumption) _ | apply At.tail | apply At.app) rfl | exact QV.load_varN T rfl rfl rfl rfl rfl (by repeat first | exact At.head _ _ | assumption | exact At.put (by assumption) _ | apply At.tail | apply At.app) (by exact (rfl : _ = [_])) rfl | exact QV.load_elem T rfl rfl rfl rfl (by repeat first | exact hRk | apply Rd.cons | apply Rd.app) (by first | exact map_get _ _ (by omega) | assumption)) ?_
                 refine RD.q rfl rfl (Gd.none rfl) (QV.convI T rfl rfl rfl rfl (by simp only [loK]; omega) (by simp only [hiK]; omega)) ?_
                 refine RD.q rfl rfl (Gd.none rfl) (QV.as (QV.orA T ((es.drop o).getD (Int.toNat 0) 0 * 2 ^ 16 + (es.drop o).getD (Int.toNat 1) 0 * 2 ^ 8 + (es.drop o).getD (Int.toNat 2) 0).toNat 8 rfl rfl rfl (by rw [Int.toNat_of_nonneg (by omega)]; try omega) (by omega) (by omega) (by simp only [hiK]; omega)) (show Value.int .u32 ((es.drop o).getD (Int.toNat 0) 0 * 2 ^ 24 + (es.drop o).getD (Int.toNat 1) 0 * 2 ^ 16 + (es.drop o).getD (Int.toNat 2) 0 * 2 ^ 8 + (es.drop o).getD (Int.toNat 3) 0) = .int .u32 (idB (es.drop o)) from by rw [← idB_eq]; rfl)) ?_
                 refine RD.p T ?_
                 refine RD.p T ?_
                 refine RD.q rfl rfl (Gd.none rfl) (by first | exact QV.arith rfl rfl rfl rfl (by omega) (by omega) | exact QV.arith_u8 rfl rfl rfl rfl (by omega) (by omega) | exact QV.arith_u16 rfl rfl rfl rfl (by omega) (by omega) | exact QV.arith_u32 rfl rfl rfl rfl (by omega) (by omega) | exact QV.arith_u64 rfl rfl rfl rfl (by omega) (by omega) | exact pev_sound T rfl) ?_
                 refine RD.q rfl rfl (Gd.none rfl) (QV.sl T (l1 := 8) (h1 := 8 + lenB (es.drop o)) (hR := fun hs => (by repeat first | exact hRk | apply Rd.cons | apply Rd.app))) ?_
                 apply RD.shareP (β := Option Addr)
                 ·intro hsh0
                  refine RD.many rfl rfl (.cons ?_ (.cons ?_ .nil))
                  ·skip
                   refine RD1.nv rfl (Gd.none rfl) ?_
                   refine NV.buildSlice T rfl rfl rfl (Nat.le_of_ble_eq_true rfl) (by exact (rfl : _ = some [])) ?_
                   intro b61_0
                   refine ⟨(Stab.cons rfl (Gd.none rfl) (QV.sl T (l1 := 8) (h1 := 8 + lenB (es.drop o)) (hR := fun hs => (by repeat first | exact hRk | apply Rd.cons | apply Rd.app))) (Stab.cons rfl (Gd.none rfl) (by first | exact pev_sound T rfl | exact QV.arith rfl rfl rfl rfl (by omega) (by omega) | exact QV.arith_u8 rfl rfl rfl rfl (by omega) (by omega) | exact QV.arith_u16 rfl rfl rfl rfl (by omega) (by omega) | exact QV.arith_u32 rfl rfl rfl rfl (by omega) (by omega) | exact QV.arith_u64 rfl rfl rfl rfl (by omega) (by omega) ) (Stab.cons rfl (Gd.none rfl) (pev_sound T rfl) (Stab.cons rfl (Gd.none rfl) (pev_sound T rfl) (Stab.cons rfl (Gd.none rfl) (QV.as (QV.orA T ((es.drop o).getD (Int.toNat 0) 0 * 2 ^ 16 + (es.drop o).getD (Int.toNat 1) 0 * 2 ^ 8 + (es.drop o).getD (Int.toNat 2) 0).toNat 8 rfl rfl rfl (by rw [Int.toNat_of_nonneg (by omega)]; try omega) (by omega) (by omega) (by simp only [hiK]; omega)) (show Value.int .u32 ((es.drop o).getD (Int.toNat 0) 0 * 2 ^ 24 + (es.drop o).getD (Int.toNat 1) 0 * 2 ^ 16 + (es.drop o).getD (Int.toNat 2) 0 * 2 ^ 8 + (es.drop o).getD (Int.toNat 3) 0) = .int .u32 (idB (es.drop o)) from by rw [← idB_eq]; rfl)) (Stab.cons rfl (Gd.none rfl) (QV.convI T rfl rfl rfl rfl (by simp only [loK]; omega) (by simp only [hiK]; omega)) (Stab.cons rfl (Gd.none rfl) (by first | exact QV.load_var1 T rfl rfl rfl rfl (by repeat first | exact At.head _ _ | assumption | exact At.put (by assumption) _ | apply At.tail | apply At.app) rfl | exact QV.load_varN T rfl rfl rfl rfl rfl (by repeat first | exact At.head _ _ | assumption | exact At.put (by assumption) _ | apply At.tail | apply At.app) rfl rfl | exact QV.load_elem T rfl rfl rfl rfl (by repeat first | exact hRk | apply Rd.cons | apply Rd.app) (by first | exact map_get _ _ (by omega) | assumption)) (Stab.cons rfl (Gd.none rfl) (by first | exact QV.indexAddr_array T rfl rfl rfl rfl rfl (by omega) (by omega) | exact QV.indexAddr_slice T rfl rfl rfl rfl rfl (Rd.some (by repeat first | exact hRk | apply Rd.cons | apply Rd.app) (by omega)) (by omega) (by omega)) (Stab.cons rfl (Gd.none rfl) (pev_sound T rfl) (Stab.cons rfl (Gd.none rfl) (QV.orA T ((es.drop o).getD (Int.toNat 0) 0 * 2 ^ 8 + (es.drop o).getD (Int.toNat 1) 0).toNat 16 rfl rfl rfl (by rw [Int.toNat_of_nonneg (by omega)]; try omega) (by omega) (by omega) (by simp only [hiK]; omega)) (Stab.cons rfl (Gd.none rfl) (QV.shlP (s := 8) rfl rfl rfl rfl rfl (by simp only [loK]; omega) (by simp only [hiK]; omega)) (Stab.cons rfl (Gd.none rfl) (QV.convI T rfl rfl rfl rfl (by simp only [loK]; omega) (by simp only [hiK]; omega)) (Stab.cons rfl (Gd.none rfl) (by first | exact QV.load_var1 T rfl rfl rfl rfl (by repeat first | exact At.head _ _ | assumption | exact At.put (by assumption) _ | apply At.tail | apply At.app) rfl | exact QV.load_varN T rfl rfl rfl rfl rfl (by repeat first | exact At.head _ _ | assumption | exact At.put (by assumption) _ | apply At.tail | apply At.app) rfl rfl | exact QV.load_elem T rfl rfl rfl rfl (by repeat first | exact hRk | apply Rd.cons | apply Rd.app) (by first | exact map_get _ _ (by omega) | assumption)) (Stab.cons rfl (Gd.none rfl) (by first | exact QV.indexAddr_array T rfl rfl rfl rfl rfl (by omega) (by omega) | exact QV.indexAddr_slice T rfl rfl rfl rfl rfl (Rd.some (by repeat first | exact hRk | apply Rd.cons | apply Rd.app) (by omega)) (by omega) (by omega)) (Stab.cons rfl (Gd.none rfl) (pev_sound T rfl) (Stab.cons rfl (Gd.none rfl) (QV.orA T ((es.drop o).getD (Int.toNat 0) 0).toNat 24 rfl rfl rfl (by rw [Int.toNat_of_nonneg (by omega)]; try omega) (by omega) (by omega) (by simp only [hiK]; omega)) (Stab.cons rfl (Gd.none rfl) (QV.shlP (s := 16) rfl rfl rfl rfl rfl (by simp only [loK]; omega) (by simp only [hiK]; omega)) (Stab.cons rfl (Gd.none rfl) (QV.convI T rfl rfl rfl rfl (by simp only [loK]; omega) (by simp only [hiK]; omega)) (Stab.cons rfl (Gd.none rfl) (by first | exact QV.load_var1 T rfl rfl rfl rfl (by repeat first | exact At.head _ _ | assumption | exact At.put (by assumption) _ | apply At.tail | apply At.app) rfl | exact QV.load_varN T rfl rfl rfl rfl rfl (by repeat first | exact At.head _ _ | assumption | exact At.put (by assumption) _ | apply At.tail | apply At.app) rfl rfl | exact QV.load_elem T rfl rfl rfl rfl (by repeat first | exact hRk | apply Rd.cons | apply Rd.app) (by first | exact map_get _ _ (by omega) | assumption)) (Stab.cons rfl (Gd.none rfl) (by first | exact QV.indexAddr_array T rfl rfl rfl rfl rfl (by omega) (by omega) | exact QV.indexAddr_slice T rfl rfl rfl rfl rfl (Rd.some (by repeat first | exact hRk | apply Rd.cons | apply Rd.app) (by omega)) (by omega) (by omega)) (Stab.cons rfl (Gd.none rfl) (pev_sound T rfl) (Stab.cons rfl (Gd.none rfl) (QV.shlP (s := 24) rfl rfl rfl rfl rfl (by simp only [loK]; omega) (by simp only [hiK]; omega)) (Stab.cons rfl (Gd.none rfl) (QV.convI T rfl rfl rfl rfl (by simp only [loK]; omega) (by simp only [hiK]; omega)) (Stab.cons rfl (Gd.none rfl) (by first | exact QV.load_var1 T rfl rfl rfl rfl (by repeat first | exact At.head _ _ | assumption | exact At.put (by assumption) _ | apply At.tail | apply At.app) rfl | exact QV.load_varN T rfl rfl rfl rfl rfl (by repeat first | exact At.head _ _ | assumption | exact At.put (by assumption) _ | apply At.tail | apply At.app) rfl rfl | exact QV.load_elem T rfl rfl rfl rfl (by repeat first | exact hRk | apply Rd.cons | apply Rd.app) (by first | exact map_get _ _ (by omega) | assumption)) (Stab.cons rfl (Gd.none rfl) (by first | exact QV.indexAddr_array T rfl rfl rfl rfl rfl (by omega) (by omega) | exact QV.indexAddr_slice T rfl rfl rfl rfl rfl (Rd.some (by repeat first | exact hRk | apply Rd.cons | apply Rd.app) (by omega)) (by omega) (by omega)) (Stab.cons rfl (Gd.none rfl) (pev_sound T rfl) Stab.nil)))))))))))))))))))))))))), ?_⟩
                   refine RD.many rfl rfl (.cons ?_ (.cons ?_ .nil))
                   ·skip
                    refine RD1.nv rfl (Gd.none rfl) ?_
                    refine NV.apI (ki := .u8) (xs := []) (ys := ((es.drop o).drop 8).take (8 + lenB (es.drop o) - 8)) T ?_ (hR := fun hs => Rd.seg 8 (8 + lenB (es.drop o)) (by repeat first | exact hRk | apply Rd.cons | apply Rd.app) (by omega) (by omega))
                    intro a3_ c3_
                    refine ⟨(Stab.cons rfl (Gd.none rfl) (QV.as (QV.orA T ((es.drop o).getD (Int.toNat 0) 0 * 2 ^ 16 + (es.drop o).getD (Int.toNat 1) 0 * 2 ^ 8 + (es.drop o).getD (Int.toNat 2) 0).toNat 8 rfl rfl rfl (by rw [Int.toNat_of_nonneg (by omega)]; try omega) (by omega) (by omega) (by simp only [hiK]; omega)) (show Value.int .u32 ((es.drop o).getD (Int.toNat 0) 0 * 2 ^ 24 + (es.drop o).getD (Int.toNat 1) 0 * 2 ^ 16 + (es.drop o).getD (Int.toNat 2) 0 * 2 ^ 8 + (es.drop o).getD (Int.toNat 3) 0) = .int .u32 (idB (es.drop o)) from by rw [← idB_eq]; rfl)) (Stab.cons rfl (Gd.none rfl) (QV.convI T rfl rfl rfl rfl (by simp only [loK]; omega) (by simp only [hiK]; omega)) (Stab.cons rfl (Gd.none rfl) (by first | exact QV.load_var1 T rfl rfl rfl rfl (by repeat first | exact At.head _ _ | assumption | exact At.put (by assumption) _ | apply At.tail | apply At.app) rfl | exact QV.load_varN T rfl rfl rfl rfl rfl (by repeat first | exact At.head _ _ | assumption | exact At.put (by assumption) _ | apply At.tail | apply At.app) rfl rfl | exact QV.load_elem T rfl rfl rfl rfl (by repeat first | exact hRk | apply Rd.cons | apply Rd.app) (by first | exact map_get _ _ (by omega) | assumption)) (Stab.cons rfl (Gd.none rfl) (by first | exact QV.indexAddr_array T rfl rfl rfl rfl rfl (by omega) (by omega) | exact QV.indexAddr_slice T rfl rfl rfl rfl rfl (Rd.some (by repeat first | exact hRk | apply Rd.cons | apply Rd.app) (by omega)) (by omega) (by omega)) (Stab.cons rfl (Gd.none rfl) (pev_sound T rfl) (Stab.cons rfl (Gd.none rfl) (QV.orA T ((es.drop o).getD (Int.toNat 0) 0 * 2 ^ 8 + (es.drop o).getD (Int.toNat 1) 0).toNat 16 rfl rfl rfl (by rw [Int.toNat_of_nonneg (by omega)]; try omega) (by omega) (by omega) (by simp only [hiK]; omega)) (Stab.cons rfl (Gd.none rfl) (QV.shlP (s := 8) rfl rfl rfl rfl rfl (by simp only [loK]; omega) (by simp only [hiK]; omega)) (Stab.cons rfl (Gd.none rfl) (QV.convI T rfl rfl rfl rfl (by simp only [loK]; omega) (by simp only [hiK]; omega)) (Stab.cons rfl (Gd.none rfl) (by first | exact QV.load_var1 T rfl rfl rfl rfl (by repeat first | exact At.head _ _ | assumption | exact At.put (by assumption) _ | apply At.tail | apply At.app) rfl | exact QV.load_varN T rfl rfl rfl rfl rfl (by repeat first | exact At.head _ _ | assumption | exact At.put (by assumption) _ | apply At.tail | apply At.app) rfl rfl | exact QV.load_elem T rfl rfl rfl rfl (by repeat first | exact hRk | apply Rd.cons | apply Rd.app) (by first | exact map_get _ _ (by omega) | assumption)) (Stab.cons rfl (Gd.none rfl) (by first | exact QV.indexAddr_array T rfl rfl rfl rfl rfl (by omega) (by omega) | exact QV.indexAddr_slice T rfl rfl rfl rfl rfl (Rd.some (by repeat first | exact hRk | apply Rd.cons | apply Rd.app) (by omega)) (by omega) (by omega)) (Stab.cons rfl (Gd.none rfl) (pev_sound T rfl) (Stab.cons rfl (Gd.none rfl) (QV.orA T ((es.drop o).getD (Int.toNat 0) 0).toNat 24 rfl rfl rfl (by rw [Int.toNat_of_nonneg (by omega)]; try omega) (by omega) (by omega) (by simp only [hiK]; omega)) (Stab.cons rfl (Gd.none rfl) (QV.shlP (s := 16) rfl rfl rfl rfl rfl (by simp only [loK]; omega) (by simp only [hiK]; omega)) (Stab.cons rfl (Gd.none rfl) (QV.convI T rfl rfl rfl rfl (by simp only [loK]; omega) (by simp only [hiK]; omega)) (Stab.cons rfl (Gd.none rfl) (by first | exact QV.load_var1 T rfl rfl rfl rfl (by repeat first | exact At.head _ _ | assumption | exact At.put (by assumption) _ | apply At.tail | apply At.app) rfl | exact QV.load_varN T rfl rfl rfl rfl rfl (by repeat first | exact At.head _ _ | assumption | exact At.put (by assumption) _ | apply At.tail | apply At.app) rfl rfl | exact QV.load_elem T rfl rfl rfl rfl (by repeat first | exact hRk | apply Rd.cons | apply Rd.app) (by first | exact map_get _ _ (by omega) | assumption)) (Stab.cons rfl (Gd.none rfl) (by first | exact QV.indexAddr_array T rfl rfl rfl rfl rfl (by omega) (by omega) | exact QV.indexAddr_slice T rfl rfl rfl rfl rfl (Rd.some (by repeat first | exact hRk | apply Rd.cons | apply Rd.app) (by omega)) (by omega) (by omega)) (Stab.cons rfl (Gd.none rfl) (pev_sound T rfl) (Stab.cons rfl (Gd.none rfl) (QV.shlP (s := 24) rfl rfl rfl rfl rfl (by simp only [loK]; omega) (by simp only [hiK]; omega)) (Stab.cons rfl (Gd.none rfl) (QV.convI T rfl rfl rfl rfl (by simp only [loK]; omega) (by simp only [hiK]; omega)) (Stab.cons rfl (Gd.none rfl) (by first | exact QV.load_var1 T rfl rfl rfl rfl (by repeat first | exact At.head _ _ | assumption | exact At.put (by assumption) _ | apply At.tail | apply At.app) rfl | exact QV.load_varN T rfl rfl rfl rfl rfl (by repeat first | exact At.head _ _ | assumption | exact At.put (by assumption) _ | apply At.tail | apply At.app) rfl rfl | exact QV.load_elem T rfl rfl rfl rfl (by repeat first | exact hRk | apply Rd.cons | apply Rd.app) (by first | exact map_get _ _ (by omega) | assumption)) (Stab.cons rfl (Gd.none rfl) (by first | exact QV.indexAddr_array T rfl rfl rfl rfl rfl (by omega) (by omega) | exact QV.indexAddr_slice T rfl rfl rfl rfl rfl (Rd.some (by repeat first | exact hRk | apply Rd.cons | apply Rd.app) (by omega)) (by omega) (by omega)) (Stab.cons rfl (Gd.none rfl) (pev_sound T rfl) Stab.nil)))))))))))))))))))))), ?_⟩
                    refine RD.q rfl rfl (Gd.none rfl) (by first | exact QV.buildc T rfl (rfl : _ = some [_, _]) | exact pev_sound T (rfl : _ = some (Value.agg #[_, _]))) ?_
                    refine RD.nv rfl rfl rfl (Gd.none rfl) ?_
                    refine NV.alloc T rfl rfl rfl (by exact (rfl : _ = [_, _])) ?_
                    intro b7_1
                    refine ⟨(Stab.cons rfl (Gd.none rfl) (pev_sound T rfl) (Stab.cons rfl (Gd.none rfl) (QV.sl T (l1 := 8) (h1 := 8 + lenB (es.drop o)) (hR := fun hs => (by repeat first | exact hRk | apply Rd.cons | apply Rd.app))) (Stab.cons rfl (Gd.none rfl) (by first | exact pev_sound T rfl | exact QV.arith rfl rfl rfl rfl (by omega) (by omega) | exact QV.arith_u8 rfl rfl rfl rfl (by omega) (by omega) | exact QV.arith_u16 rfl rfl rfl rfl (by omega) (by omega) | exact QV.arith_u32 rfl rfl rfl rfl (by omega) (by omega) | exact QV.arith_u64 rfl rfl rfl rfl (by omega) (by omega) ) (Stab.cons rfl (Gd.none rfl) (pev_sound T rfl) (Stab.cons rfl (Gd.none rfl) (pev_sound T rfl) (Stab.cons rfl (Gd.none rfl) (QV.as (QV.orA T ((es.drop o).getD (Int.toNat 0) 0 * 2 ^ 16 + (es.drop o).getD (Int.toNat 1) 0 * 2 ^ 8 + (es.drop o).getD (Int.toNat 2) 0).toNat 8 rfl rfl rfl (by rw [Int.toNat_of_nonneg (by omega)]; try omega) (by omega) (by omega) (by simp only [hiK]; omega)) (show Value.int .u32 ((es.drop o).getD (Int.toNat 0) 0 * 2 ^ 24 + (es.drop o).getD (Int.toNat 1) 0 * 2 ^ 16 + (es.drop o).getD (Int.toNat 2) 0 * 2 ^ 8 + (es.drop o).getD (Int.toNat 3) 0) = .int .u32 (idB (es.drop o)) from by rw [← idB_eq]; rfl)) (Stab.cons rfl (Gd.none rfl) (QV.convI T rfl rfl rfl rfl (by simp only [loK]; omega) (by simp only [hiK]; omega)) (Stab.cons rfl (Gd.none rfl) (by first | exact QV.load_var1 T rfl rfl rfl rfl (by repeat first | exact At.head _ _ | assumption | exact At.put (by assumption) _ | apply At.tail | apply At.app) rfl | exact QV.load_varN T rfl rfl rfl rfl rfl (by repeat first | exact At.head _ _ | assumption | exact At.put (by assumption) _ | apply At.tail | apply At.app) rfl rfl | exact QV.load_elem T rfl rfl rfl rfl (by repeat first | exact hRk | apply Rd.cons | apply Rd.app) (by first | exact map_get _ _ (by omega) | assumption)) (Stab.cons rfl (Gd.none rfl) (by first | exact QV.indexAddr_array T rfl rfl rfl rfl rfl (by omega) (by omega) | exact QV.indexAddr_slice T rfl rfl rfl rfl rfl (Rd.some (by repeat first | exact hRk | apply Rd.cons | apply Rd.app) (by omega)) (by omega) (by omega)) (Stab.cons rfl (Gd.none rfl) (pev_sound T rfl) (Stab.cons rfl (Gd.none rfl) (QV.orA T ((es.drop o).getD (Int.toNat 0) 0 * 2 ^ 8 + (es.drop o).getD (Int.toNat 1) 0).toNat 16 rfl rfl rfl (by rw [Int.toNat_of_nonneg (by omega)]; try omega) (by omega) (by omega) (by simp only [hiK]; omega)) (Stab.cons rfl (Gd.none rfl) (QV.shlP (s := 8) rfl rfl rfl rfl rfl (by simp only [loK]; omega) (by simp only [hiK]; omega)) (Stab.cons rfl (Gd.none rfl) (QV.convI T rfl rfl rfl rfl (by simp only [loK]; omega) (by simp only [hiK]; omega)) (Stab.cons rfl (Gd.none rfl) (by first | exact QV.load_var1 T rfl rfl rfl rfl (by repeat first | exact At.head _ _ | assumption | exact At.put (by assumption) _ | apply At.tail | apply At.app) rfl | exact QV.load_varN T rfl rfl rfl rfl rfl (by repeat first | exact At.head _ _ | assumption | exact At.put (by assumption) _ | apply At.tail | apply At.app) rfl rfl | exact QV.load_elem T rfl rfl rfl rfl (by repeat first | exact hRk | apply Rd.cons | apply Rd.app) (by first | exact map_get _ _ (by omega) | assumption)) (Stab.cons rfl (Gd.none rfl) (by first | exact QV.indexAddr_array T rfl rfl rfl rfl rfl (by omega) (by omega) | exact QV.indexAddr_slice T rfl rfl rfl rfl rfl (Rd.some (by repeat first | exact hRk | apply Rd.cons | apply Rd.app) (by omega)) (by omega) (by omega)) (Stab.cons rfl (Gd.none rfl) (pev_sound T rfl) (Stab.cons rfl (Gd.none rfl) (QV.orA T ((es.drop o).getD (Int.toNat 0) 0).toNat 24 rfl rfl rfl (by rw [Int.toNat_of_nonneg (by omega)]; try omega) (by omega) (by omega) (by simp only [hiK]; omega)) (Stab.cons rfl (Gd.none rfl) (QV.shlP (s := 16) rfl rfl rfl rfl rfl (by simp only [loK]; omega) (by simp only [hiK]; omega)) (Stab.cons rfl (Gd.none rfl) (QV.convI T rfl rfl rfl rfl (by simp only [loK]; omega) (by simp only [hiK]; omega)) (Stab.cons rfl (Gd.none rfl) (by first | exact QV.load_var1 T rfl rfl rfl rfl (by repeat first | exact At.head _ _ | assumption | exact At.put (by assumption) _ | apply At.tail | apply At.app) rfl | exact QV.load_varN T rfl rfl rfl rfl rfl (by repeat first | exact At.head _ _ | assumption | exact At.put (by assumption) _ | apply At.tail | apply At.app) rfl rfl | exact QV.load_elem T rfl rfl rfl rfl (by repeat first | exact hRk | apply Rd.cons | apply Rd.app) (by first | exact map_get _ _ (by omega) | assumption)) (Stab.cons rfl (Gd.none rfl) (by first | exact QV.indexAddr_array T rfl rfl rfl rfl rfl (by omega) (by omega) | exact QV.indexAddr_slice T rfl rfl rfl rfl rfl (Rd.some (by repeat first | exact hRk | apply Rd.cons | apply Rd.app) (by omega)) (by omega) (by omega)) (Stab.cons rfl (Gd.none rfl) (pev_sound T rfl) (Stab.cons rfl (Gd.none rfl) (QV.shlP (s := 24) rfl rfl rfl rfl rfl (by simp only [loK]; omega) (by simp only [hiK]; omega)) (Stab.cons rfl (Gd.none rfl) (QV.convI T rfl rfl rfl rfl (by simp only [loK]; omega) (by simp only [hiK]; omega)) (Stab.cons rfl (Gd.none rfl) (by first | exact QV.load_var1 T rfl rfl rfl rfl (by repeat first | exact At.head _ _ | assumption | exact At.put (by assumption) _ | apply At.tail | apply At.app) rfl | exact QV.load_varN T rfl rfl rfl rfl rfl (by repeat first | exact At.head _ _ | assumption | exact At.put (by assumption) _ | apply At.tail | apply At.app) rfl rfl | exact QV.load_elem T rfl rfl rfl rfl (by repeat first | exact hRk | apply Rd.cons | apply Rd.app) (by first | exact map_get _ _ (by omega) | assumption)) (Stab.cons rfl (Gd.none rfl) (by first | exact QV.indexAddr_array T rfl rfl rfl rfl rfl (by omega) (by omega) | exact QV.indexAddr_slice T rfl rfl rfl rfl rfl (Rd.some (by repeat first | exact hRk | apply Rd.cons | apply Rd.app) (by omega)) (by omega) (by omega)) (Stab.cons rfl (Gd.none rfl) (pev_sound T rfl) Stab.nil))))))))))))))))))))))))))), ?_⟩
                    refine RD.nv rfl rfl rfl (Gd.none rfl) ?_
                    refine NV.sN T rfl rfl rfl (by exact (rfl : _ = [_, _])) (by exact (rfl : _ = [_, _])) ?_
                    refine ⟨Stab.nil, ?_⟩
                    refine RD.k rfl rfl ?_
                    exact hsh0 a3_ c3_ b61_0 b7_1 _ (by first | exact .refl _ | exact .swap _ _ _ | exact .cons _ (.swap _ _ _) | exact .trans (.swap _ _ _) (.cons _ (.swap _ _ _)) | exact .trans (.cons _ (.swap _ _ _)) (.swap _ _ _) | exact .trans (.swap _ _ _) (.trans (.cons _ (.swap _ _ _)) (.swap _ _ _)))
                   ·skip
                    refine RD1.nv rfl (Gd.none rfl) ?_
                    refine NV.alloc T rfl rfl rfl (by exact (rfl : _ = [_, _])) ?_
                    intro b7_1
                    refine ⟨(Stab.cons rfl (Gd.none rfl) (QV.sl T (l1 := 8) (h1 := 8 + lenB (es.drop o)) (hR := fun hs => (by repeat first | exact hRk | apply Rd.cons | apply Rd.app))) (Stab.cons rfl (Gd.none rfl) (by first | exact pev_sound T rfl | exact QV.arith rfl rfl rfl rfl (by omega) (by omega) | exact QV.arith_u8 rfl rfl rfl rfl (by omega) (by omega) | exact QV.arith_u16 rfl rfl rfl rfl (by omega) (by omega) | exact QV.arith_u32 rfl rfl rfl rfl (by omega) (by omega) | exact QV.arith_u64 rfl rfl rfl rfl (by omega) (by omega) ) (Stab.cons rfl (Gd.none rfl) (pev_sound T rfl) (Stab.cons rfl (Gd.none rfl) (pev_sound T rfl) (Stab.cons rfl (Gd.none rfl) (QV.as (QV.orA T ((es.drop o).getD (Int.toNat 0) 0 * 2 ^ 16 + (es.drop o).getD (Int.toNat 1) 0 * 2 ^ 8 + (es.drop o).getD (Int.toNat 2) 0).toNat 8 rfl rfl rfl (by rw [Int.toNat_of_nonneg (by omega)]; try omega) (by omega) (by omega) (by simp only [hiK]; omega)) (show Value.int .u32 ((es.drop o).getD (Int.toNat 0) 0 * 2 ^ 24 + (es.drop o).getD (Int.toNat 1) 0 * 2 ^ 16 + (es.drop o).getD (Int.toNat 2) 0 * 2 ^ 8 + (es.drop o).getD (Int.toNat 3) 0) = .int .u32 (idB (es.drop o)) from by rw [← idB_eq]; rfl)) (Stab.cons rfl (Gd.none rfl) (QV.convI T rfl rfl rfl rfl (by simp only [loK]; omega) (by simp only [hiK]; omega)) (Stab.cons rfl (Gd.none rfl) (by first | exact QV.load_var1 T rfl rfl rfl rfl (by repeat first | exact At.head _ _ | assumption | exact At.put (by assumption) _ | apply At.tail | apply At.app) rfl | exact QV.load_varN T rfl rfl rfl rfl rfl (by repeat first | exact At.head _ _ | assumption | exact At.put (by assumption) _ | apply At.tail | apply At.app) rfl rfl | exact QV.load_elem T rfl rfl rfl rfl (by repeat first | exact hRk | apply Rd.cons | apply Rd.app) (by first | exact map_get _ _ (by omega) | assumption)) (Stab.cons rfl (Gd.none rfl) (by first | exact QV.indexAddr_array T rfl rfl rfl rfl rfl (by omega) (by omega) | exact QV.indexAddr_slice T rfl rfl rfl rfl rfl (Rd.some (by repeat first | exact hRk | apply Rd.cons | apply Rd.app) (by omega)) (by omega) (by omega)) (Stab.cons rfl (Gd.none rfl) (pev_sound T rfl) (Stab.cons rfl (Gd.none rfl) (QV.orA T ((es.drop o).getD (Int.toNat 0) 0 * 2 ^ 8 + (es.drop o).getD (Int.toNat 1) 0).toNat 16 rfl rfl rfl (by rw [Int.toNat_of_nonneg (by omega)]; try omega) (by omega) (by omega) (by simp only [hiK]; omega)) (Stab.cons rfl (Gd.none rfl) (QV.shlP (s := 8) rfl rfl rfl rfl rfl (by simp only [loK]; omega) (by simp only [hiK]; omega)) (Stab.cons rfl (Gd.none rfl) (QV.convI T rfl rfl rfl rfl (by simp only [loK]; omega) (by simp only [hiK]; omega)) (Stab.cons rfl (Gd.none rfl) (by first | exact QV.load_var1 T rfl rfl rfl rfl (by repeat first | exact At.head _ _ | assumption | exact At.put (by assumption) _ | apply At.tail | apply At.app) rfl | exact QV.load_varN T rfl rfl rfl rfl rfl (by repeat first | exact At.head _ _ | assumption | exact At.put (by assumption) _ | apply At.tail | apply At.app) rfl rfl | exact QV.load_elem T rfl rfl rfl rfl (by repeat first | exact hRk | apply Rd.cons | apply Rd.app) (by first | exact map_get _ _ (by omega) | assumption)) (Stab.cons rfl (Gd.none rfl) (by first | exact QV.indexAddr_array T rfl rfl rfl rfl rfl (by omega) (by omega) | exact QV.indexAddr_slice T rfl rfl rfl rfl rfl (Rd.some (by repeat first | exact hRk | apply Rd.cons | apply Rd.app) (by omega)) (by omega) (by omega)) (Stab.cons rfl (Gd.none rfl) (pev_sound T rfl) (Stab.cons rfl (Gd.none rfl) (QV.orA T ((es.drop o).getD (Int.toNat 0) 0).toNat 24 rfl rfl rfl (by rw [Int.toNat_of_nonneg (by omega)]; try omega) (by omega) (by omega) (by simp only [hiK]; omega)) (Stab.cons rfl (Gd.none rfl) (QV.shlP (s := 16) rfl rfl rfl rfl rfl (by simp only [loK]; omega) (by simp only [hiK]; omega)) (Stab.cons rfl (Gd.none rfl) (QV.convI T rfl rfl rfl rfl (by simp only [loK]; omega) (by simp only [hiK]; omega)) (Stab.cons rfl (Gd.none rfl) (by first | exact QV.load_var1 T rfl rfl rfl rfl (by repeat first | exact At.head _ _ | assumption | exact At.put (by assumption) _ | apply At.tail | apply At.app) rfl | exact QV.load_varN T rfl rfl rfl rfl rfl (by repeat first | exact At.head _ _ | assumption | exact At.put (by assumption) _ | apply At.tail | apply At.app) rfl rfl | exact QV.load_elem T rfl rfl rfl rfl (by repeat first | exact hRk | apply Rd.cons | apply Rd.app) (by first | exact map_get _ _ (by omega) | assumption)) (Stab.cons rfl (Gd.none rfl) (by first | exact QV.indexAddr_array T rfl rfl rfl rfl rfl (by omega) (by omega) | exact QV.indexAddr_slice T rfl rfl rfl rfl rfl (Rd.some (by repeat first | exact hRk | apply Rd.cons | apply Rd.app) (by omega)) (by omega) (by omega)) (Stab.cons rfl (Gd.none rfl) (pev_sound T rfl) (Stab.cons rfl (Gd.none rfl) (QV.shlP (s := 24) rfl rfl rfl rfl rfl (by simp only [loK]; omega) (by simp only [hiK]; omega)) (Stab.cons rfl (Gd.none rfl) (QV.convI T rfl rfl rfl rfl (by simp only [loK]; omega) (by simp only [hiK]; omega)) (Stab.cons rfl (Gd.none rfl) (by first | exact QV.load_var1 T rfl rfl rfl rfl (by repeat first | exact At.head _ _ | assumption | exact At.put (by assumption) _ | apply At.tail | apply At.app) rfl | exact QV.load_varN T rfl rfl rfl rfl rfl (by repeat first | exact At.head _ _ | assumption | exact At.put (by assumption) _ | apply At.tail | apply At.app) rfl rfl | exact QV.load_elem T rfl rfl rfl rfl (by repeat first | exact hRk | apply Rd.cons | apply Rd.app) (by first | exact map_get _ _ (by omega) | assumption)) (Stab.cons rfl (Gd.none rfl) (by first | exact QV.indexAddr_array T rfl rfl rfl rfl rfl (by omega) (by omega) | exact QV.indexAddr_slice T rfl rfl rfl rfl rfl (Rd.some (by repeat first | exact hRk | apply Rd.cons | apply Rd.app) (by omega)) (by omega) (by omega)) (Stab.cons rfl (Gd.none rfl) (pev_sound T rfl) Stab.nil)))))))))))))))))))))))))), ?_⟩
                    refine RD.nv rfl rfl rfl (Gd.none rfl) ?_
                    refine NV.apI (ki := .u8) (xs := []) (ys := ((es.drop o).drop 8).take (8 + lenB (es.drop o) - 8)) T ?_ (hR := fun hs => Rd.seg 8 (8 + lenB (es.drop o)) (by repeat first | exact hRk | apply Rd.cons | apply Rd.app) (by omega) (by omega))
                    intro a3_ c3_
                    refine ⟨(Stab.cons rfl (Gd.none rfl) (QV.as (QV.orA T ((es.drop o).getD (Int.toNat 0) 0 * 2 ^ 16 + (es.drop o).getD (Int.toNat 1) 0 * 2 ^ 8 + (es.drop o).getD (Int.toNat 2) 0).toNat 8 rfl rfl rfl (by rw [Int.toNat_of_nonneg (by omega)]; try omega) (by omega) (by omega) (by simp only [hiK]; omega)) (show Value.int .u32 ((es.drop o).getD (Int.toNat 0) 0 * 2 ^ 24 + (es.drop o).getD (Int.toNat 1) 0 * 2 ^ 16 + (es.drop o).getD (Int.toNat 2) 0 * 2 ^ 8 + (es.drop o).getD (Int.toNat 3) 0) = .int .u32 (idB (es.drop o)) from by rw [← idB_eq]; rfl)) (Stab.cons rfl (Gd.none rfl) (QV.convI T rfl rfl rfl rfl (by simp only [loK]; omega) (by simp only [hiK]; omega)) (Stab.cons rfl (Gd.none rfl) (by first | exact QV.load_var1 T rfl rfl rfl rfl (by repeat first | exact At.head _ _ | assumption | exact At.put (by assumption) _ | apply At.tail | apply At.app) rfl | exact QV.load_varN T rfl rfl rfl rfl rfl (by repeat first | exact At.head _ _ | assumption | exact At.put (by assumption) _ | apply At.tail | apply At.app) rfl rfl | exact QV.load_elem T rfl rfl rfl rfl (by repeat first | exact hRk | apply Rd.cons | apply Rd.app) (by first | exact map_get _ _ (by omega) | assumption)) (Stab.cons rfl (Gd.none rfl) (by first | exact QV.indexAddr_array T rfl rfl rfl rfl rfl (by omega) (by omega) | exact QV.indexAddr_slice T rfl rfl rfl rfl rfl (Rd.some (by repeat first | exact hRk | apply Rd.cons | apply Rd.app) (by omega)) (by omega) (by omega)) (Stab.cons rfl (Gd.none rfl) (pev_sound T rfl) (Stab.cons rfl (Gd.none rfl) (QV.orA T ((es.drop o).getD (Int.toNat 0) 0 * 2 ^ 8 + (es.drop o).getD (Int.toNat 1) 0).toNat 16 rfl rfl rfl (by rw [Int.toNat_of_nonneg (by omega)]; try omega) (by omega) (by omega) (by simp only [hiK]; omega)) (Stab.cons rfl (Gd.none rfl) (QV.shlP (s := 8) rfl rfl rfl rfl rfl (by simp only [loK]; omega) (by simp only [hiK]; omega)) (Stab.cons rfl (Gd.none rfl) (QV.convI T rfl rfl rfl rfl (by simp only [loK]; omega) (by simp only [hiK]; omega)) (Stab.cons rfl (Gd.none rfl) (by first | exact QV.load_var1 T rfl rfl rfl rfl (by repeat first | exact At.head _ _ | assumption | exact At.put (by assumption) _ | apply At.tail | apply At.app) rfl | exact QV.load_varN T rfl rfl rfl rfl rfl (by repeat first | exact At.head _ _ | assumption | exact At.put (by assumption) _ | apply At.tail | apply At.app) rfl rfl | exact QV.load_elem T rfl rfl rfl rfl (by repeat first | exact hRk | apply Rd.cons | apply Rd.app) (by first | exact map_get _ _ (by omega) | assumption)) (Stab.cons rfl (Gd.none rfl) (by first | exact QV.indexAddr_array T rfl rfl rfl rfl rfl (by omega) (by omega) | exact QV.indexAddr_slice T rfl rfl rfl rfl rfl (Rd.some (by repeat first | exact hRk | apply Rd.cons | apply Rd.app) (by omega)) (by omega) (by omega)) (Stab.cons rfl (Gd.none rfl) (pev_sound T rfl) (Stab.cons rfl (Gd.none rfl) (QV.orA T ((es.drop o).getD (Int.toNat 0) 0).toNat 24 rfl rfl rfl (by rw [Int.toNat_of_nonneg (by omega)]; try omega) (by omega) (by omega) (by simp only [hiK]; omega)) (Stab.cons rfl (Gd.none rfl) (QV.shlP (s := 16) rfl rfl rfl rfl rfl (by simp only [loK]; omega) (by simp only [hiK]; omega)) (Stab.cons rfl (Gd.none rfl) (QV.convI T rfl rfl rfl rfl (by simp only [loK]; omega) (by simp only [hiK]; omega)) (Stab.cons rfl (Gd.none rfl) (by first | exact QV.load_var1 T rfl rfl rfl rfl (by repeat first | exact At.head _ _ | assumption | exact At.put (by assumption) _ | apply At.tail | apply At.app) rfl | exact QV.load_varN T rfl rfl rfl rfl rfl (by repeat first | exact At.head _ _ | assumption | exact At.put (by assumption) _ | apply At.tail | apply At.app) rfl rfl | exact QV.load_elem T rfl rfl rfl rfl (by repeat first | exact hRk | apply Rd.cons | apply Rd.app) (by first | exact map_get _ _ (by omega) | assumption)) (Stab.cons rfl (Gd.none rfl) (by first | exact QV.indexAddr_array T rfl rfl rfl rfl rfl (by omega) (by omega) | exact QV.indexAddr_slice T rfl rfl rfl rfl rfl (Rd.some (by repeat first | exact hRk | apply Rd.cons | apply Rd.app) (by omega)) (by omega) (by omega)) (Stab.cons rfl (Gd.none rfl) (pev_sound T rfl) (Stab.cons rfl (Gd.none rfl) (QV.shlP (s := 24) rfl rfl rfl rfl rfl (by simp only [loK]; omega) (by simp only [hiK]; omega)) (Stab.cons rfl (Gd.none rfl) (QV.convI T rfl rfl rfl rfl (by simp only [loK]; omega) (by simp only [hiK]; omega)) (Stab.cons rfl (Gd.none rfl) (by first | exact QV.load_var1 T rfl rfl rfl rfl (by repeat first | exact At.head _ _ | assumption | exact At.put (by assumption) _ | apply At.tail | apply At.app) rfl | exact QV.load_varN T rfl rfl rfl rfl rfl (by repeat first | exact At.head _ _ | assumption | exact At.put (by assumption) _ | apply At.tail | apply At.app) rfl rfl | exact QV.load_elem T rfl rfl rfl rfl (by repeat first | exact hRk | apply Rd.cons | apply Rd.app) (by first | exact map_get _ _ (by omega) | assumption)) (Stab.cons rfl (Gd.none rfl) (by first | exact QV.indexAddr_array T rfl rfl rfl rfl rfl (by omega) (by omega) | exact QV.indexAddr_slice T rfl rfl rfl rfl rfl (Rd.some (by repeat first | exact hRk | apply Rd.cons | apply Rd.app) (by omega)) (by omega) (by omega)) (Stab.cons rfl (Gd.none rfl) (pev_sound T rfl) Stab.nil)))))))))))))))))))))), ?_⟩
                    refine RD.q rfl rfl (Gd.none rfl) (by first | exact QV.buildc T rfl (rfl : _ = some [_, _]) | exact pev_sound T (rfl : _ = some (Value.agg #[_, _]))) ?_
                    refine RD.nv rfl rfl rfl (Gd.none rfl) ?_
                    refine NV.sN T rfl rfl rfl (by exact (rfl : _ = [_, _])) (by exact (rfl : _ = [_, _])) ?_
                    refine ⟨Stab.nil, ?_⟩
                    refine RD.k rfl rfl ?_
                    exact hsh0 a3_ c3_ b61_0 b7_1 _ (by first | exact .refl _ | exact .swap _ _ _ | exact .cons _ (.swap _ _ _) | exact .trans (.swap _ _ _) (.cons _ (.swap _ _ _)) | exact .trans (.cons _ (.swap _ _ _)) (.swap _ _ _) | exact .trans (.swap _ _ _) (.trans (.cons _ (.swap _ _ _)) (.swap _ _ _)))
                  ·skip
                   refine RD1.nv rfl (Gd.none rfl) ?_
                   refine NV.alloc T rfl rfl rfl (by exact (rfl : _ = [_, _])) ?_
                   intro b7_0
                   refine ⟨(Stab.cons rfl (Gd.none rfl) (QV.sl T (l1 := 8) (h1 := 8 + lenB (es.drop o)) (hR := fun hs => (by repeat first | exact hRk | apply Rd.cons | apply Rd.app))) (Stab.cons rfl (Gd.none rfl) (by first | exact pev_sound T rfl | exact QV.arith rfl rfl rfl rfl (by omega) (by omega) | exact QV.arith_u8 rfl rfl rfl rfl (by omega) (by omega) | exact QV.arith_u16 rfl rfl rfl rfl (by omega) (by omega) | exact QV.arith_u32 rfl rfl rfl rfl (by omega) (by omega) | exact QV.arith_u64 rfl rfl rfl rfl (by omega) (by omega) ) (Stab.cons rfl (Gd.none rfl) (pev_sound T rfl) (Stab.cons rfl (Gd.none rfl) (pev_sound T rfl) (Stab.cons rfl (Gd.none rfl) (QV.as (QV.orA T ((es.drop o).getD (Int.toNat 0) 0 * 2 ^ 16 + (es.drop o).getD (Int.toNat 1) 0 * 2 ^ 8 + (es.drop o).getD (Int.toNat 2) 0).toNat 8 rfl rfl rfl (by rw [Int.toNat_of_nonneg (by omega)]; try omega) (by omega) (by omega) (by simp only [hiK]; omega)) (show Value.int .u32 ((es.drop o).getD (Int.toNat 0) 0 * 2 ^ 24 + (es.drop o).getD (Int.toNat 1) 0 * 2 ^ 16 + (es.drop o).getD (Int.toNat 2) 0 * 2 ^ 8 + (es.drop o).getD (Int.toNat 3) 0) = .int .u32 (idB (es.drop o)) from by rw [← idB_eq]; rfl)) (Stab.cons rfl (Gd.none rfl) (QV.convI T rfl rfl rfl rfl (by simp only [loK]; omega) (by simp only [hiK]; omega)) (Stab.cons rfl (Gd.none rfl) (by first | exact QV.load_var1 T rfl rfl rfl rfl (by repeat first | exact At.head _ _ | assumption | exact At.put (by assumption) _ | apply At.tail | apply At.app) rfl | exact QV.load_varN T rfl rfl rfl rfl rfl (by repeat first | exact At.head _ _ | assumption | exact At.put (by assumption) _ | apply At.tail | apply At.app) rfl rfl | exact QV.load_elem T rfl rfl rfl rfl (by repeat first | exact hRk | apply Rd.cons | apply Rd.app) (by first | exact map_get _ _ (by omega) | assumption)) (Stab.cons rfl (Gd.none rfl) (by first | exact QV.indexAddr_array T rfl rfl rfl rfl rfl (by omega) (by omega) | exact QV.indexAddr_slice T rfl rfl rfl rfl rfl (Rd.some (by repeat first | exact hRk | apply Rd.cons | apply Rd.app) (by omega)) (by omega) (by omega)) (Stab.cons rfl (Gd.none rfl) (pev_sound T rfl) (Stab.cons rfl (Gd.none rfl) (QV.orA T ((es.drop o).getD (Int.toNat 0) 0 * 2 ^ 8 + (es.drop o).getD (Int.toNat 1) 0).toNat 16 rfl rfl rfl (by rw [Int.toNat_of_nonneg (by omega)]; try omega) (by omega) (by omega) (by simp only [hiK]; omega)) (Stab.cons rfl (Gd.none rfl) (QV.shlP (s := 8) rfl rfl rfl rfl rfl (by simp only [loK]; omega) (by simp only [hiK]; omega)) (Stab.cons rfl (Gd.none rfl) (QV.convI T rfl rfl rfl rfl (by simp only [loK]; omega) (by simp only [hiK]; omega)) (Stab.cons rfl (Gd.none rfl) (by first | exact QV.load_var1 T rfl rfl rfl rfl (by repeat first | exact At.head _ _ | assumption | exact At.put (by assumption) _ | apply At.tail | apply At.app) rfl | exact QV.load_varN T rfl rfl rfl rfl rfl (by repeat first | exact At.head _ _ | assumption | exact At.put (by assumption) _ | apply At.tail | apply At.app) rfl rfl | exact QV.load_elem T rfl rfl rfl rfl (by repeat first | exact hRk | apply Rd.cons | apply Rd.app) (by first | exact map_get _ _ (by omega) | assumption)) (Stab.cons rfl (Gd.none rfl) (by first | exact QV.indexAddr_array T rfl rfl rfl rfl rfl (by omega) (by omega) | exact QV.indexAddr_slice T rfl rfl rfl rfl rfl (Rd.some (by repeat first | exact hRk | apply Rd.cons | apply Rd.app) (by omega)) (by omega) (by omega)) (Stab.cons rfl (Gd.none rfl) (pev_sound T rfl) (Stab.cons rfl (Gd.none rfl) (QV.orA T ((es.drop o).getD (Int.toNat 0) 0).toNat 24 rfl rfl rfl (by rw [Int.toNat_of_nonneg (by omega)]; try omega) (by omega) (by omega) (by simp only [hiK]; omega)) (Stab.cons rfl (Gd.none rfl) (QV.shlP (s := 16) rfl rfl rfl rfl rfl (by simp only [loK]; omega) (by simp only [hiK]; omega)) (Stab.cons rfl (Gd.none rfl) (QV.convI T rfl rfl rfl rfl (by simp only [loK]; omega) (by simp only [hiK]; omega)) (Stab.cons rfl (Gd.none rfl) (by first | exact QV.load_var1 T rfl rfl rfl rfl (by repeat first | exact At.head _ _ | assumption | exact At.put (by assumption) _ | apply At.tail | apply At.app) rfl | exact QV.load_varN T rfl rfl rfl rfl rfl (by repeat first | exact At.head _ _ | assumption | exact At.put (by assumption) _ | apply At.tail | apply At.app) rfl rfl | exact QV.load_elem T rfl rfl rfl rfl (by repeat first | exact hRk | apply Rd.cons | apply Rd.app) (by first | exact map_get _ _ (by omega) | assumption)) (Stab.cons rfl (Gd.none rfl) (by first | exact QV.indexAddr_array T rfl rfl rfl rfl rfl (by omega) (by omega) | exact QV.indexAddr_slice T rfl rfl rfl rfl rfl (Rd.some (by repeat first | exact hRk | apply Rd.cons | apply Rd.app) (by omega)) (by omega) (by omega)) (Stab.cons rfl (Gd.none rfl) (pev_sound T rfl) (Stab.cons rfl (Gd.none rfl) (QV.shlP (s := 24) rfl rfl rfl rfl rfl (by simp only [loK]; omega) (by simp only [hiK]; omega)) (Stab.cons rfl (Gd.none rfl) (QV.convI T rfl rfl rfl rfl (by simp only [loK]; omega) (by simp only [hiK]; omega)) (Stab.cons rfl (Gd.none rfl) (by first | exact QV.load_var1 T rfl rfl rfl rfl (by repeat first | exact At.head _ _ | assumption | exact At.put (by assumption) _ | apply At.tail | apply At.app) rfl | exact QV.load_varN T rfl rfl rfl rfl rfl (by repeat first | exact At.head _ _ | assumption | exact At.put (by assumption) _ | apply At.tail | apply At.app) rfl rfl | exact QV.load_elem T rfl rfl rfl rfl (by repeat first | exact hRk | apply Rd.cons | apply Rd.app) (by first | exact map_get _ _ (by omega) | assumption)) (Stab.cons rfl (Gd.none rfl) (by first | exact QV.indexAddr_array T rfl rfl rfl rfl rfl (by omega) (by omega) | exact QV.indexAddr_slice T rfl rfl rfl rfl rfl (Rd.some (by repeat first | exact hRk | apply Rd.cons | apply Rd.app) (by omega)) (by omega) (by omega)) (Stab.cons rfl (Gd.none rfl) (pev_sound T rfl) Stab.nil)))))))))))))))))))))))))), ?_⟩
                   refine RD.nv rfl rfl rfl (Gd.none rfl) ?_
                   refine NV.buildSlice T rfl rfl rfl (Nat.le_of_ble_eq_true rfl) (by exact (rfl : _ = some [])) ?_
                   intro b61_1
                   refine ⟨(Stab.cons rfl (Gd.none rfl) (QV.sl T (l1 := 8) (h1 := 8 + lenB (es.drop o)) (hR := fun hs => (by repeat first | exact hRk | apply Rd.cons | apply Rd.app))) (Stab.cons rfl (Gd.none rfl) (by first | exact pev_sound T rfl | exact QV.arith rfl rfl rfl rfl (by omega) (by omega) | exact QV.arith_u8 rfl rfl rfl rfl (by omega) (by omega) | exact QV.arith_u16 rfl rfl rfl rfl (by omega) (by omega) | exact QV.arith_u32 rfl rfl rfl rfl (by omega) (by omega) | exact QV.arith_u64 rfl rfl rfl rfl (by omega) (by omega) ) (Stab.cons rfl (Gd.none rfl) (pev_sound T rfl) (Stab.cons rfl (Gd.none rfl) (pev_sound T rfl) (Stab.cons rfl (Gd.none rfl) (QV.as (QV.orA T ((es.drop o).getD (Int.toNat 0) 0 * 2 ^ 16 + (es.drop o).getD (Int.toNat 1) 0 * 2 ^ 8 + (es.drop o).getD (Int.toNat 2) 0).toNat 8 rfl rfl rfl (by rw [Int.toNat_of_nonneg (by omega)]; try omega) (by omega) (by omega) (by simp only [hiK]; omega)) (show Value.int .u32 ((es.drop o).getD (Int.toNat 0) 0 * 2 ^ 24 + (es.drop o).getD (Int.toNat 1) 0 * 2 ^ 16 + (es.drop o).getD (Int.toNat 2) 0 * 2 ^ 8 + (es.drop o).getD (Int.toNat 3) 0) = .int .u32 (idB (es.drop o)) from by rw [← idB_eq]; rfl)) (Stab.cons rfl (Gd.none rfl) (QV.convI T rfl rfl rfl rfl (by simp only [loK]; omega) (by simp only [hiK]; omega)) (Stab.cons rfl (Gd.none rfl) (by first | exact QV.load_var1 T rfl rfl rfl rfl (by repeat first | exact At.head _ _ | assumption | exact At.put (by assumption) _ | apply At.tail | apply At.app) rfl | exact QV.load_varN T rfl rfl rfl rfl rfl (by repeat first | exact At.head _ _ | assumption | exact At.put (by assumption) _ | apply At.tail | apply At.app) rfl rfl | exact QV.load_elem T rfl rfl rfl rfl (by repeat first | exact hRk | apply Rd.cons | apply Rd.app) (by first | exact map_get _ _ (by omega) | assumption)) (Stab.cons rfl (Gd.none rfl) (by first | exact QV.indexAddr_array T rfl rfl rfl rfl rfl (by omega) (by omega) | exact QV.indexAddr_slice T rfl rfl rfl rfl rfl (Rd.some (by repeat first | exact hRk | apply Rd.cons | apply Rd.app) (by omega)) (by omega) (by omega)) (Stab.cons rfl (Gd.none rfl) (pev_sound T rfl) (Stab.cons rfl (Gd.none rfl) (QV.orA T ((es.drop o).getD (Int.toNat 0) 0 * 2 ^ 8 + (es.drop o).getD (Int.toNat 1) 0).toNat 16 rfl rfl rfl (by rw [Int.toNat_of_nonneg (by omega)]; try omega) (by omega) (by omega) (by simp only [hiK]; omega)) (Stab.cons rfl (Gd.none rfl) (QV.shlP (s := 8) rfl rfl rfl rfl rfl (by simp only [loK]; omega) (by simp only [hiK]; omega)) (Stab.cons rfl (Gd.none rfl) (QV.convI T rfl rfl rfl rfl (by simp only [loK]; omega) (by simp only [hiK]; omega)) (Stab.cons rfl (Gd.none rfl) (by first | exact QV.load_var1 T rfl rfl rfl rfl (by repeat first | exact At.head _ _ | assumption | exact At.put (by assumption) _ | apply At.tail | apply At.app) rfl | exact QV.load_varN T rfl rfl rfl rfl rfl (by repeat first | exact At.head _ _ | assumption | exact At.put (by assumption) _ | apply At.tail | apply At.app) rfl rfl | exact QV.load_elem T rfl rfl rfl rfl (by repeat first | exact hRk | apply Rd.cons | apply Rd.app) (by first | exact map_get _ _ (by omega) | assumption)) (Stab.cons rfl (Gd.none rfl) (by first | exact QV.indexAddr_array T rfl rfl rfl rfl rfl (by omega) (by omega) | exact QV.indexAddr_slice T rfl rfl rfl rfl rfl (Rd.some (by repeat first | exact hRk | apply Rd.cons | apply Rd.app) (by omega)) (by omega) (by omega)) (Stab.cons rfl (Gd.none rfl) (pev_sound T rfl) (Stab.cons rfl (Gd.none rfl) (QV.orA T ((es.drop o).getD (Int.toNat 0) 0).toNat 24 rfl rfl rfl (by rw [Int.toNat_of_nonneg (by omega)]; try omega) (by omega) (by omega) (by simp only [hiK]; omega)) (Stab.cons rfl (Gd.none rfl) (QV.shlP (s := 16) rfl rfl rfl rfl rfl (by simp only [loK]; omega) (by simp only [hiK]; omega)) (Stab.cons rfl (Gd.none rfl) (QV.convI T rfl rfl rfl rfl (by simp only [loK]; omega) (by simp only [hiK]; omega)) (Stab.cons rfl (Gd.none rfl) (by first | exact QV.load_var1 T rfl rfl rfl rfl (by repeat first | exact At.head _ _ | assumption | exact At.put (by assumption) _ | apply At.tail | apply At.app) rfl | exact QV.load_varN T rfl rfl rfl rfl rfl (by repeat first | exact At.head _ _ | assumption | exact At.put (by assumption) _ | apply At.tail | apply At.app) rfl rfl | exact QV.load_elem T rfl rfl rfl rfl (by repeat first | exact hRk | apply Rd.cons | apply Rd.app) (by first | exact map_get _ _ (by omega) | assumption)) (Stab.cons rfl (Gd.none rfl) (by first | exact QV.indexAddr_array T rfl rfl rfl rfl rfl (by omega) (by omega) | exact QV.indexAddr_slice T rfl rfl rfl rfl rfl (Rd.some (by repeat first | exact hRk | apply Rd.cons | apply Rd.app) (by omega)) (by omega) (by omega)) (Stab.cons rfl (Gd.none rfl) (pev_sound T rfl) (Stab.cons rfl (Gd.none rfl) (QV.shlP (s := 24) rfl rfl rfl rfl rfl (by simp only [loK]; omega) (by simp only [hiK]; omega)) (Stab.cons rfl (Gd.none rfl) (QV.convI T rfl rfl rfl rfl (by simp only [loK]; omega) (by simp only [hiK]; omega)) (Stab.cons rfl (Gd.none rfl) (by first | exact QV.load_var1 T rfl rfl rfl rfl (by repeat first | exact At.head _ _ | assumption | exact At.put (by assumption) _ | apply At.tail | apply At.app) rfl | exact QV.load_varN T rfl rfl rfl rfl rfl (by repeat first | exact At.head _ _ | assumption | exact At.put (by assumption) _ | apply At.tail | apply At.app) rfl rfl | exact QV.load_elem T rfl rfl rfl rfl (by repeat first | exact hRk | apply Rd.cons | apply Rd.app) (by first | exact map_get _ _ (by omega) | assumption)) (Stab.cons rfl (Gd.none rfl) (by first | exact QV.indexAddr_array T rfl rfl rfl rfl rfl (by omega) (by omega) | exact QV.indexAddr_slice T rfl rfl rfl rfl rfl (Rd.some (by repeat first | exact hRk | apply Rd.cons | apply Rd.app) (by omega)) (by omega) (by omega)) (Stab.cons rfl (Gd.none rfl) (pev_sound T rfl) Stab.nil)))))))))))))))))))))))))), ?_⟩
                   refine RD.nv rfl rfl rfl (Gd.none rfl) ?_
                   refine NV.apI (ki := .u8) (xs := []) (ys := ((es.drop o).drop 8).take (8 + lenB (es.drop o) - 8)) T ?_ (hR := fun hs => Rd.seg 8 (8 + lenB (es.drop o)) (by repeat first | exact hRk | apply Rd.cons | apply Rd.app) (by omega) (by omega))
                   intro a3_ c3_
                   refine ⟨(Stab.cons rfl (Gd.none rfl) (QV.as (QV.orA T ((es.drop o).getD (Int.toNat 0) 0 * 2 ^ 16 + (es.drop o).getD (Int.toNat 1) 0 * 2 ^ 8 + (es.drop o).getD (Int.toNat 2) 0).toNat 8 rfl rfl rfl (by rw [Int.toNat_of_nonneg (by omega)]; try omega) (by omega) (by omega) (by simp only [hiK]; omega)) (show Value.int .u32 ((es.drop o).getD (Int.toNat 0) 0 * 2 ^ 24 + (es.drop o).getD (Int.toNat 1) 0 * 2 ^ 16 + (es.drop o).getD (Int.toNat 2) 0 * 2 ^ 8 + (es.drop o).getD (Int.toNat 3) 0) = .int .u32 (idB (es.drop o)) from by rw [← idB_eq]; rfl)) (Stab.cons rfl (Gd.none rfl) (QV.convI T rfl rfl rfl rfl (by simp only [loK]; omega) (by simp only [hiK]; omega)) (Stab.cons rfl (Gd.none rfl) (by first | exact QV.load_var1 T rfl rfl rfl rfl (by repeat first | exact At.head _ _ | assumption | exact At.put (by assumption) _ | apply At.tail | apply At.app) rfl | exact QV.load_varN T rfl rfl rfl rfl rfl (by repeat first | exact At.head _ _ | assumption | exact At.put (by assumption) _ | apply At.tail | apply At.app) rfl rfl | exact QV.load_elem T rfl rfl rfl rfl (by repeat first | exact hRk | apply Rd.cons | apply Rd.app) (by first | exact map_get _ _ (by omega) | assumption)) (Stab.cons rfl (Gd.none rfl) (by first | exact QV.indexAddr_array T rfl rfl rfl rfl rfl (by omega) (by omega) | exact QV.indexAddr_slice T rfl rfl rfl rfl rfl (Rd.some (by repeat first | exact hRk | apply Rd.cons | apply Rd.app) (by omega)) (by omega) (by omega)) (Stab.cons rfl (Gd.none rfl) (pev_sound T rfl) (Stab.cons rfl (Gd.none rfl) (QV.orA T ((es.drop o).getD (Int.toNat 0) 0 * 2 ^ 8 + (es.drop o).getD (Int.toNat 1) 0).toNat 16 rfl rfl rfl (by rw [Int.toNat_of_nonneg (by omega)]; try omega) (by omega) (by omega) (by simp only [hiK]; omega)) (Stab.cons rfl (Gd.none rfl) (QV.shlP (s := 8) rfl rfl rfl rfl rfl (by simp only [loK]; omega) (by simp only [hiK]; omega)) (Stab.cons rfl (Gd.none rfl) (QV.convI T rfl rfl rfl rfl (by simp only [loK]; omega) (by simp only [hiK]; omega)) (Stab.cons rfl (Gd.none rfl) (by first | exact QV.load_var1 T rfl rfl rfl rfl (by repeat first | exact At.head _ _ | assumption | exact At.put (by assumption) _ | apply At.tail | apply At.app) rfl | exact QV.load_varN T rfl rfl rfl rfl rfl (by repeat first | exact At.head _ _ | assumption | exact At.put (by assumption) _ | apply At.tail | apply At.app) rfl rfl | exact QV.load_elem T rfl rfl rfl rfl (by repeat first | exact hRk | apply Rd.cons | apply Rd.app) (by first | exact map_get _ _ (by omega) | assumption)) (Stab.cons rfl (Gd.none rfl) (by first | exact QV.indexAddr_array T rfl rfl rfl rfl rfl (by omega) (by omega) | exact QV.indexAddr_slice T rfl rfl rfl rfl rfl (Rd.some (by repeat first | exact hRk | apply Rd.cons | apply Rd.app) (by omega)) (by omega) (by omega)) (Stab.cons rfl (Gd.none rfl) (pev_sound T rfl) (Stab.cons rfl (Gd.none rfl) (QV.orA T ((es.drop o).getD (Int.toNat 0) 0).toNat 24 rfl rfl rfl (by rw [Int.toNat_of_nonneg (by omega)]; try omega) (by omega) (by omega) (by simp only [hiK]; omega)) (Stab.cons rfl (Gd.none rfl) (QV.shlP (s := 16) rfl rfl rfl rfl rfl (by simp only [loK]; omega) (by simp only [hiK]; omega)) (Stab.cons rfl (Gd.none rfl) (QV.convI T rfl rfl rfl rfl (by simp only [loK]; omega) (by simp only [hiK]; omega)) (Stab.cons rfl (Gd.none rfl) (by first | exact QV.load_var1 T rfl rfl rfl rfl (by repeat first | exact At.head _ _ | assumption | exact At.put (by assumption) _ | apply At.tail | apply At.app) rfl | exact QV.load_varN T rfl rfl rfl rfl rfl (by repeat first | exact At.head _ _ | assumption | exact At.put (by assumption) _ | apply At.tail | apply At.app) rfl rfl | exact QV.load_elem T rfl rfl rfl rfl (by repeat first | exact hRk | apply Rd.cons | apply Rd.app) (by first | exact map_get _ _ (by omega) | assumption)) (Stab.cons rfl (Gd.none rfl) (by first | exact QV.indexAddr_array T rfl rfl rfl rfl rfl (by omega) (by omega) | exact QV.indexAddr_slice T rfl rfl rfl rfl rfl (Rd.some (by repeat first | exact hRk | apply Rd.cons | apply Rd.app) (by omega)) (by omega) (by omega)) (Stab.cons rfl (Gd.none rfl) (pev_sound T rfl) (Stab.cons rfl (Gd.none rfl) (QV.shlP (s := 24) rfl rfl rfl rfl rfl (by simp only [loK]; omega) (by simp only [hiK]; omega)) (Stab.cons rfl (Gd.none rfl) (QV.convI T rfl rfl rfl rfl (by simp only [loK]; omega) (by simp only [hiK]; omega)) (Stab.cons rfl (Gd.none rfl) (by first | exact QV.load_var1 T rfl rfl rfl rfl (by repeat first | exact At.head _ _ | assumption | exact At.put (by assumption) _ | apply At.tail | apply At.app) rfl | exact QV.load_varN T rfl rfl rfl rfl rfl (by repeat first | exact At.head _ _ | assumption | exact At.put (by assumption) _ | apply At.tail | apply At.app) rfl rfl | exact QV.load_elem T rfl rfl rfl rfl (by repeat first | exact hRk | apply Rd.cons | apply Rd.app) (by first | exact map_get _ _ (by omega) | assumption)) (Stab.cons rfl (Gd.none rfl) (by first | exact QV.indexAddr_array T rfl rfl rfl rfl rfl (by omega) (by omega) | exact QV.indexAddr_slice T rfl rfl rfl rfl rfl (Rd.some (by repeat first | exact hRk | apply Rd.cons | apply Rd.app) (by omega)) (by omega) (by omega)) (Stab.cons rfl (Gd.none rfl) (pev_sound T rfl) Stab.nil)))))))))))))))))))))), ?_⟩
                   refine RD.q rfl rfl (Gd.none rfl) (by first | exact QV.buildc T rfl (rfl : _ = some [_, _]) | exact pev_sound T (rfl : _ = some (Value.agg #[_, _]))) ?_
                   refine RD.nv rfl rfl rfl (Gd.none rfl) ?_
                   refine NV.sN T rfl rfl rfl (by exact (rfl : _ = [_, _])) (by exact (rfl : _ = [_, _])) ?_
                   refine ⟨Stab.nil, ?_⟩
                   refine RD.k rfl rfl ?_
                   exact hsh0 a3_ c3_ b61_1 b7_0 _ (by first | exact .refl _ | exact .swap _ _ _ | exact .cons _ (.swap _ _ _) | exact .trans (.swap _ _ _) (.cons _ (.swap _ _ _)) | exact .trans (.cons _ (.swap _ _ _)) (.swap _ _ _) | exact .trans (.swap _ _ _) (.trans (.cons _ (.swap _ _ _)) (.swap _ _ _)))
                 ·intro a3_ c3_ b61_1 b7_0 Hp13 hp13
                  refine hK19 _ _ _ ?_
                  refine SW.perm' hp13 ?_
                  refine SW.seq_k fun K20 hK20 => ?_
                  refine SW.seq_k fun K21 hK21 => ?_
                  refine SW.wk (.var b7_0 35 (PdC (⟨idB (es.drop o), ((es.drop o).drop 8).take (8 + lenB (es.drop o) - 8), a3_, (0 + (8 + lenB (es.drop o) - 8)), c3_⟩ : Pd)) :: .row a3_ ((⟨idB (es.drop o), ((es.drop o).drop 8).take (8 + lenB (es.drop o) - 8), a3_, (0 + (8 + lenB (es.drop o) - 8)), c3_⟩ : Pd)).n c3_ 5 1 (((⟨idB (es.drop o), ((es.drop o).drop 8).take (8 + lenB (es.drop o) - 8), a3_, (0 + (8 + lenB (es.drop o) - 8)), c3_⟩ : Pd)).data.map (Value.int .u8)) :: .row oa k oc 35 2 (List.flatMap PdC ps) :: (G ++ H)) ?_ (hs := SubL.refl _)
                  refine SW.sat (fun hs => ?_)
                  have hlq : 8 + lenB (es.drop o) - 8 = lenB (es.drop o) := by omega
                  have hdq : ((⟨idB (es.drop o), ((es.drop o).drop 8).take (8 + lenB (es.drop o) - 8), a3_, (0 + (8 + lenB (es.drop o) - 8)), c3_⟩ : Pd)).data.length = lenB (es.drop o) := by
                    show (((es.drop o).drop 8).take (8 + lenB (es.drop o) - 8)).length = _
                    rw [List.length_take, List.length_drop]; omega
                  have hRC : Rd w0 [.row a3_ ((⟨idB (es.drop o), ((es.drop o).drop 8).take (8 + lenB (es.drop o) - 8), a3_, (0 + (8 + lenB (es.drop o) - 8)), c3_⟩ : Pd)).n c3_ 5 1 (((⟨idB (es.drop o), ((es.drop o).drop 8).take (8 + lenB (es.drop o) - 8), a3_, (0 + (8 + lenB (es.drop o) - 8)), c3_⟩ : Pd)).data.map (Value.int .u8))] a3_ ((⟨idB (es.drop o), ((es.drop o).drop 8).take (8 + lenB (es.drop o) - 8), a3_, (0 + (8 + lenB (es.drop o) - 8)), c3_⟩ : Pd)).n c3_ 1 (((⟨idB (es.drop o), ((es.drop o).drop 8).take (8 + lenB (es.drop o) - 8), a3_, (0 + (8 + lenB (es.drop o) - 8)), c3_⟩ : Pd)).data.map (Value.int .u8)) := Rd.rowh (satT (H0 := [.row a3_ ((⟨idB (es.drop o), ((es.drop o).drop 8).take (8 + lenB (es.drop o) - 8), a3_, (0 + (8 + lenB (es.drop o) - 8)), c3_⟩ : Pd)).n c3_ 5 1 (((⟨idB (es.drop o), ((es.drop o).drop 8).take (8 + lenB (es.drop o) - 8), a3_, (0 + (8 + lenB (es.drop o) - 8)), c3_⟩ : Pd)).data.map (Value.int .u8))]) hs) (At.head _ _)
                  clear hs
                  have hpq : PdOk w0 [.row a3_ ((⟨idB (es.drop o), ((es.drop o).drop 8).take (8 + lenB (es.drop o) - 8), a3_, (0 + (8 + lenB (es.drop o) - 8)), c3_⟩ : Pd)).n c3_ 5 1 (((⟨idB (es.drop o), ((es.drop o).drop 8).take (8 + lenB (es.drop o) - 8), a3_, (0 + (8 + lenB (es.drop o) - 8)), c3_⟩ : Pd)).data.map (Value.int .u8))] (⟨idB (es.drop o), ((es.drop o).drop 8).take (8 + lenB (es.drop o) - 8), a3_, (0 + (8 + lenB (es.drop o) - 8)), c3_⟩ : Pd) := ⟨hir, (by show 0 + (8 + lenB (es.drop o) - 8) = _; rw [hdq]; omega), (by show 0 + (8 + lenB (es.drop o) - 8) ≤ _; omega), hBo.seg _ _, hRC⟩
                  have hmq : mgP (⟨idB (es.drop o), ((es.drop o).drop 8).take (8 + lenB (es.drop o) - 8), a3_, (0 + (8 + lenB (es.drop o) - 8)), c3_⟩ : Pd) = (idB (es.drop o), ((es.drop o).drop 8).take (lenB (es.drop o))) := by
                    show (idB (es.drop o), ((es.drop o).drop 8).take (8 + lenB (es.drop o) - 8)) = _; rw [hlq]
                  have hsm : bytesP (⟨idB (es.drop o), ((es.drop o).drop 8).take (8 + lenB (es.drop o) - 8), a3_, (0 + (8 + lenB (es.drop o) - 8)), c3_⟩ : Pd) = (es.drop o).take (wholeN (lenB (es.drop o))) ↔ (firstS (es.drop o)).2.2 = 0 := by
                    show bytesM (mgP (⟨idB (es.drop o), ((es.drop o).drop 8).take (8 + lenB (es.drop o) - 8), a3_, (0 + (8 + lenB (es.drop o) - 8)), c3_⟩ : Pd)) = _ ↔ _
                    rw [hmq]; exact one_iff hBo (by omega) (by omega) (by omega)
                  refine SW.draw [(68, 0), (69, 1), (70, 2), (71, 3), (72, 4), (73, 5), (74, 6)] [[], [0], [], [], [2, 3], [1, 0, 4, 2, 3], [5, 1, 0, 4, 2, 3]] mixed (by kernel_rfl) (by kernel_rfl) ?_
                  refine RD.q rfl rfl (Gd.none rfl) (QV.vN T rfl rfl rfl rfl rfl (by exact (rfl : _ = [_, _]))) ?_
                  refine RD.p T ?_
                  refine RD.p T ?_
                  refine RD.q rfl rfl (Gd.none rfl) (QV.sl T (h1 := wholeN (lenB (es.drop o))) (hR := fun hs => (by repeat first | exact hRk | apply Rd.cons | apply Rd.app))) ?_
                  refine RD.nv rfl rfl rfl (Gd.none rfl) ?_
                  refine NV.call rfl rfl rfl fun23 rfl rfl (pone (⟨idB (es.drop o), ((es.drop o).drop 8).take (8 + lenB (es.drop o) - 8), a3_, (0 + (8 + lenB (es.drop o) - 8)), c3_⟩ : Pd) (hpq.sub SubL.by) (by rw [hdq]; omega)) ?_
                  rintro _ _ ⟨a5, c5, rfl, e⟩; obtain rfl := e.symm
                  refine ⟨(Stab.cons rfl (Gd.none rfl) (QV.sl T (h1 := wholeN (lenB (es.drop o))) (hR := fun hs => (by repeat first | exact hRk | apply Rd.cons | apply Rd.app))) (Stab.cons rfl (Gd.none rfl) (pev_sound T rfl) (Stab.cons rfl (Gd.none rfl) (pev_sound T rfl) Stab.nil))), ?_⟩
                  refine RD.nv rfl rfl rfl (Gd.none rfl) ?_
                  refine NV.sat (fun hs => ?_) (fun c hc => by cases hc)
                  refine NV.call rfl rfl rfl fun16 rfl rfl (same _ _ _ _ _ _ (bytesP (⟨idB (es.drop o), ((es.drop o).drop 8).take (8 + lenB (es.drop o) - 8), a3_, (0 + (8 + lenB (es.drop o) - 8)), c3_⟩ : Pd)) ((es.drop o).take (wholeN (lenB (es.drop o)))) (Rd.rowh hs (At.head _ _)) (Rd.pre (wholeN (lenB (es.drop o))) (by repeat first | exact hRk | apply Rd.cons | apply Rd.app) (by omega)) (bytesP_len _).symm (by rw [List.length_take]; omega) (by rw [hdq]; omega) (by omega)) ?_
                  rintro _ _ ⟨rfl, e⟩; obtain rfl := e.symm
                  refine ⟨Stab.nil, ?_⟩
                  refine RD.p T ?_
                  refine RD.k rfl rfl ?_
                  refine hK21 _ _ _ ?_
                  refine SW.cs (fun hc5 => ?_) (fun hc5 => ?_)
                  ·skip
                   first
                    | (exfalso; first | omega | contradiction | (clear hK21 K21; clear hK20 K20; clear hK19 K19; clear hK17 K17; clear hK16 K16; clear hK15 K15; clear hK14 K14; clear hK12 K12; clear hK11 K11; clear hK10 K10; clear hK9 K9; clear hK8 K8; clear hK7 K7; clear hK5 K5; clear hK4 K4; clear hK2 K2; clear hK1 K1; clear hK0 K0; simp at *; done))
                    | (
                     refine SW.seq_k fun K22 hK22 => ?_
                     refine SW.nilrow 35 2 ?_
                     refine SW.region _ _ _ _ ?_
                     refine RL.p T ?_
                     refine RL.p T ?_
                     refine RL.nil _ _ _ _ ?_
                     refine hK22 _ _ _ ?_
                     refine SW.ret ?_
                     refine retQ.wk ((.row none 0 0 35 2 [] :: H)) ?_
                     refine retQ.rr _ ?_ (hH := fun w hw => hw)
                     clear hK22 K22 hK21 K21 hK20 K20 hK19 K19 hK17 K17 hK16 K16 hK15 K15 hK14 K14 hK12 K12 hK11 K11 hK10 K10 hK9 K9 hK8 K8 hK7 K7 hK5 K5 hK4 K4 hK2 K2 hK1 K1 hK0 K0
                     have he : (firstS (es.drop o)).2.2 = 5 := by
                       have h9 : (firstS (es.drop o)).2.2 ≠ 0 := fun e => absurd (hsm.2 e) (by simpa using hc5)
                       exact first_five (by omega) (by omega) h9
                     have hv : splitV es = ([], 5) := by rw [hsv, hsf, splitF_bad hdn (by rw [he]; decide), he]
                     exact ⟨[], none, 0, [], (by rw [hv]; rfl), rfl, (by rw [hv]; rfl), by simp⟩
                     )
                  ·skip
                   first
                    | (exfalso; first | omega | contradiction | (clear hK21 K21; clear hK20 K20; clear hK19 K19; clear hK17 K17; clear hK16 K16; clear hK15 K15; clear hK14 K14; clear hK12 K12; clear hK11 K11; clear hK10 K10; clear hK9 K9; clear hK8 K8; clear hK7 K7; clear hK5 K5; clear hK4 K4; clear hK2 K2; clear hK1 K1; clear hK0 K0; simp at *; done))
                    | (
                     refine SW.skip ?_
                     refine hK20 _ _ _ ?_
                     refine SW.seq_k fun K23 hK23 => ?_
                     have he : (firstS (es.drop o)).2.2 = 0 := hsm.1 (by simpa using hc5)
                     have hRn : Rd w0 H (subA a (wholeN (lenB (es.drop o))) c' 1) (m - wholeN (lenB (es.drop o))) (c' - wholeN (lenB (es.drop o))) 1 ((es.drop (o + wholeN (lenB (es.drop o)))).map (.int .u8)) := by
                       have h8 := hRk.seg (wholeN (lenB (es.drop o))) m (by omega) (Nat.le_refl _)
                       rw [List.take_of_length_le (by rw [List.length_drop, List.length_drop]; omega), List.drop_drop] at h8
                       exact h8
                     have hf1 : (firstS (es.drop o)).1 = (idB (es.drop o), ((es.drop o).drop 8).take (lenB (es.drop o))) := by
                       rcases first_or (es.drop o) with ⟨_, _, _, _, h⟩ | ⟨h, _⟩
                       · exact h
                       · exact absurd he h
                     have hf2 : (firstS (es.drop o)).2.1 = wholeN (lenB (es.drop o)) := by
                       rcases first_or (es.drop o) with ⟨_, _, _, h, _⟩ | ⟨h, _⟩
                       · exact h
                       · exact absurd he h
                     refine SW.region _ _ _ _ ?_
                     refine RL.p T ?_
                     refine RL.q (QV.vN T rfl rfl rfl rfl rfl (by exact (rfl : _ = [_, _]))) ?_
                     refine RL.bs T rfl rfl rfl (by exact (rfl : _ = some [_, _])) (fun b77_2 => ?_)
                     refine RL.apS T ([(⟨idB (es.drop o), ((es.drop o).drop 8).take (8 + lenB (es.drop o) - 8), a3_, (0 + (8 + lenB (es.drop o) - 8)), c3_⟩ : Pd)]) (fun a0_ c0_ => ?_)
                     refine RL.p T ?_
                     refine RL.nil _ _ _ _ ?_
                     refine hK23 _ _ _ ?_
                     refine SW.region _ _ _ _ ?_
                     refine RL.p T ?_
                     refine RL.p T ?_
                     refine RL.sl T ?_ (l1 := wholeN (lenB (es.drop o))) (h1 := m) (hR := fun hs => (by repeat first | exact hRk | apply Rd.cons | apply Rd.app))
                     refine RL.p T ?_
                     refine RL.wk (.row a0_ (k + 1) c0_ 35 2 (List.flatMap PdC (ps ++ [(⟨idB (es.drop o), ((es.drop o).drop 8).take (8 + lenB (es.drop o) - 8), a3_, (0 + (8 + lenB (es.drop o) - 8)), c3_⟩ : Pd)])) :: ((.row a3_ ((⟨idB (es.drop o), ((es.drop o).drop 8).take (8 + lenB (es.drop o) - 8), a3_, (0 + (8 + lenB (es.drop o) - 8)), c3_⟩ : Pd)).n c3_ 5 1 (((⟨idB (es.drop o), ((es.drop o).drop 8).take (8 + lenB (es.drop o) - 8), a3_, (0 + (8 + lenB (es.drop o) - 8)), c3_⟩ : Pd)).data.map (Value.int .u8)) :: G) ++ H)) ?_
                     refine RL.nil _ _ _ _ ?_
                     exact ⟨n - (o + wholeN (lenB (es.drop o))), (by omega), o + wholeN (lenB (es.drop o)), k + 1, m - wholeN (lenB (es.drop o)), _, a0_, _, c0_, ps ++ [(⟨idB (es.drop o), ((es.drop o).drop 8).take (8 + lenB (es.drop o) - 8), a3_, (0 + (8 + lenB (es.drop o) - 8)), c3_⟩ : Pd)], .row a3_ ((⟨idB (es.drop o), ((es.drop o).drop 8).take (8 + lenB (es.drop o) - 8), a3_, (0 + (8 + lenB (es.drop o) - 8)), c3_⟩ : Pd)).n c3_ 5 1 (((⟨idB (es.drop o), ((es.drop o).drop 8).take (8 + lenB (es.drop o) - 8), a3_, (0 + (8 + lenB (es.drop o) - 8)), c3_⟩ : Pd)).data.map (Value.int .u8)) :: G, f1, (by rfl), ⟨by omega, by omega, hRn, ⟨by simp [hkp], by omega⟩, (fun y hy => (List.mem_append.1 hy).elim (fun m => (hps y m).cons) (fun m => by rw [List.mem_singleton.1 m]; exact hpq.sub SubL.by)), by omega, by rw [hsf, splitF_step hdn he, mg_app, hf1, hf2, List.drop_drop, ← hmq]; rfl⟩, (.cons rfl (.cons rfl (.nil (by repeat first | with_reducible exact Mx.refl | with_reducible exact Mx.mix | refine Mx.put rfl ?_ | refine Mx.upd rfl ?_ | refine Mx.updl rfl ?_ | refine Mx.fin rfl ?_ | refine Mx.inner rfl ?_ | refine Mx.none ?_ | exact Mx.refl | exact Mx.mix)))), rfl, rfl⟩
                     )
                 )
              )
           )
        ·skip
         first
          | (exfalso; first | omega | contradiction | (clear hK10 K10; clear hK9 K9; clear hK8 K8; clear hK7 K7; clear hK5 K5; clear hK4 K4; clear hK2 K2; clear hK1 K1; clear hK0 K0; simp at *; done))
          | (
           refine SW.exit ?_
           refine hK8 _ _ _ ?_
           refine SW.seq_k fun K24 hK24 => ?_
           refine SW.region _ _ _ _ ?_
           refine RL.p T ?_
           refine RL.p T ?_
           refine RL.p T ?_
           refine RL.nil _ _ _ _ ?_
           refine hK24 _ _ _ ?_
           refine SW.ret ?_
           subst hkp
           refine retQ.wk ((.row oa ps.length oc 35 2 (List.flatMap PdC ps) :: (G ++ H))) ?_
           refine retQ.rr _ ?_ (hH := fun w hw => hw)
           clear hK24 K24 hK10 K10 hK9 K9 hK8 K8 hK7 K7 hK5 K5 hK4 K4 hK2 K2 hK1 K1 hK0 K0
           have hv : splitV es = (mg ps, 0) := by rw [hsv, hsf, List.drop_of_length_le (by omega), splitF_nil]
           exact ⟨G, oa, oc, ps, (by rw [hv]; rfl), rfl, (by rw [hv]), hps⟩
           )
       )
    )
end Go.Proofs.YthigfghfpmpiiaaDoor.M
