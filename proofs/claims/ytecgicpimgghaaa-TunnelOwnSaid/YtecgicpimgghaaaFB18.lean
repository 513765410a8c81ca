import Derived.Test.YtecgicpimgghaaaProg
import Derived.Test.YtecgicpimgghaaaFA18
set_option linter.unusedVariables false
set_option linter.unusedSimpArgs false
namespace Go.Proofs.Ytecgicpimgghaaa.M
open Go Go.Sep Go.Proofs
set_option maxRecDepth 10000
set_option maxHeartbeats 2000000
theorem marks {w0 : World} {H : List Chunk} (b : Nat) (f : Frm) (sa : Option Addr) (n c : Nat) : SC Try.prog w0 26 #[.pointer (some ⟨b, 0, none⟩)] (.var b 25 (FC f sa n c) :: H) (fun v H' => ∃ fd, v = .agg #[.pointer (some ⟨fd, 0, none⟩), .pointer (some ⟨b, 2, none⟩), .pointer (some ⟨b, 3, none⟩), .pointer (some ⟨b, 4, none⟩), .pointer (some ⟨b, 5, none⟩)] ∧ H' = .var fd 4 [.bool (decide (f.kind = 2))] :: .var b 25 (FC f sa n c) :: H) := by
 refine SC.enter Try.func26 rfl (Nat.le_of_ble_eq_true rfl) ?_
 refine SW.seq_k fun K0 hK0 => ?_
 refine SW.region _ _ _ _ ?_
 refine RL.s ?_
 refine NV.alloc T rfl rfl rfl (by exact (rfl : _ = [_, _, _, _, _])) ?_
 intro b2_0
 refine RL.nil _ _ _ _ ?_
 refine hK0 _ _ _ ?_
 refine SW.seq_k fun K1 hK1 => ?_
 refine SW.region _ _ _ _ ?_
 refine RL.p T ?_
 refine RL.p T ?_
 refine RL.p T ?_
 first | refine RL.lv1 T ?_ | refine RL.le T ?_
 refine RL.p T ?_
 refine RL.s ?_
 refine NV.alloc T rfl rfl rfl (by exact (rfl : _ = [_])) ?_
 intro b3_1
 refine RL.sv1 T ?_
 refine RL.nil _ _ _ _ ?_
 refine hK1 _ _ _ ?_
 refine SW.seq_k fun K2 hK2 => ?_
 refine SW.draw [(9, 0), (10, 1), (11, 2), (12, 3), (13, 4), (14, 5), (15, 6), (16, 7), (17, 8), (18, 9), (19, 10), (20, 11), (21, 12)] [[], [0], [1, 0], [], [3], [4, 3], [], [6], [7, 6], [], [9], [10, 9], [2, 1, 0, 5, 4, 3, 8, 7, 6, 11, 10, 9], [12, 2, 1, 0, 5, 4, 3, 8, 7, 6, 11, 10, 9]] mixed (by kernel_rfl) (by kernel_rfl) ?_
 refine RD.p T ?_
 refine RD.p T ?_
 refine RD.p T ?_
 refine RD.p T ?_
 refine RD.p T ?_
 refine RD.p T ?_
 refine RD.p T ?_
 refine RD.p T ?_
 refine RD.p T ?_
 refine RD.p T ?_
 refine RD.p T ?_
 refine RD.p T ?_
 refine RD.q rfl rfl (Gd.none rfl) (by first | exact QV.buildc T rfl (rfl : _ = some [_, _, _, _, _]) | exact pev_sound T (rfl : _ = some (Value.agg #[_, _, _, _, _]))) ?_
 refine RD.nv rfl rfl rfl (Gd.none rfl) ?_
 refine NV.sN T rfl rfl rfl (by exact (rfl : _ = [_, _, _, _, _])) (by exact (rfl : _ = [_, _, _, _, _])) ?_
 refine ⟨Stab.nil, ?_⟩
 refine RD.k rfl rfl ?_
 refine hK2 _ _ _ ?_
 refine SW.ret ?_
 refine retQ.ra ((.var b3_1 4 [.bool (decide (f.kind = 2))] :: .var b 25 (FC f sa n c) :: H)) (RVs.cN T rfl rfl rfl rfl (by exact (rfl : _ = [_, _, _, _, _])) RVs.nil) ?_
 clear hK2 K2 hK1 K1 hK0 K0
 exact ⟨_, rfl, rfl⟩
theorem put16 {w0 : World} {H : List Chunk} (a : Option Addr) (n c : Nat) (xs : List Int) (hn : n = xs.length) (hm : n ≤ 1000000) (sb : Option Addr) (m cb : Nat) (ys : List Int) (hS : Rd w0 H sb m cb 1 (ys.map (.int .u16))) (hm2 : m = ys.length) (hm3 : m ≤ 1000000) (hy : ∀ k, 0 ≤ ys.getD k 0 ∧ ys.getD k 0 ≤ 65535) : SC Try.prog w0 27 #[.slice a n c, .slice sb m cb] (.row a n c 5 1 ((xs).map (.int .u8)) :: H) (fun v H' => ∃ a' c', v = .slice a' (n + 2 * m) c' ∧ H' = .row a' (n + 2 * m) c' 5 1 ((xs ++ ys.flatMap two).map (.int .u8)) :: H) := by
 refine SC.enter Try.func27 rfl (Nat.le_of_ble_eq_true rfl) ?_
 refine SW.seq_k fun K0 hK0 => ?_
 refine SW.region _ _ _ _ ?_
 refine RL.p T ?_
 refine RL.nil _ _ _ _ ?_
 refine hK0 _ _ _ ?_
 refine SW.seq_k fun K1 hK1 => ?_
 refine SW.seq_k fun K2 hK2 => ?_
 refine SW.region _ _ _ _ ?_
 refine RL.p T ?_
 refine RL.p T ?_
 refine RL.p T ?_
 refine RL.nil _ _ _ _ ?_
 refine hK2 _ _ _ ?_
 refine SW.block ?_
 refine SW.loopM (fun frB mm fr ds HH => ∃ (k : Nat) (a : Option Addr) (c : Nat), mm = m - k ∧ (k ≤ m) ∧ FrIs [0, 6, 9, 10, 11, 12, 13, 14, 15, 16, 17, 18, 19, 20, 21] frB fr [(0, .slice a (n + 2 * k) c), (9, .int .i64 k)] ∧ ds = [] ∧ HH = (.row a (n + 2 * k) c 5 1 ((xs ++ (ys.take k).flatMap two).map (.int .u8)) :: H)) (n := m - 0) ?_ ?_
 ·exact ⟨0, a, c, rfl, Nat.zero_le _, (.cons rfl (.consI rfl (by first | omega | rfl) (.nil (by repeat first | exact Mx.refl | exact Mx.mix | refine Mx.put rfl ?_ | refine Mx.upd rfl ?_ | refine Mx.updl rfl ?_ | refine Mx.fin rfl ?_ | refine Mx.inner rfl ?_ | refine Mx.none ?_)))), rfl, (by simp)⟩
 ·rintro mm fr ds HH ⟨k, a, c, rfl, hk, hFr, rfl, eHH⟩
  obtain rfl := eHH.symm
  obtain ⟨frU, rfl⟩ := hFr.eq
  clear hFr
  have hz := hy k
  refine SW.seq_k fun K3 hK3 => ?_
  refine SW.region _ _ _ _ ?_
  refine RL.p T ?_
  refine RL.nil _ _ _ _ ?_
  refine hK3 _ _ _ ?_
  refine SW.seq_k fun K4 hK4 => ?_
  refine SW.cs (fun hc0 => ?_) (fun hc0 => ?_)
  ·skip
   refine SW.skip ?_
   refine hK4 _ _ _ ?_
   refine SW.seq_k fun K5 hK5 => ?_
   refine SW.block ?_
   refine SW.seq_k fun K6 hK6 => ?_
   refine SW.region _ _ _ _ ?_
   refine RL.ix T ?_ (hR := fun hs => (by repeat first | exact hS | apply Rd.cons | apply Rd.app))
   refine RL.le T ?_ (hR := fun hs => (by repeat first | exact hS | apply Rd.cons | apply Rd.app))
   refine RL.p T ?_
   refine RL.nil _ _ _ _ ?_
   refine hK6 _ _ _ ?_
   refine SW.region _ _ _ _ ?_
   refine RL.p T ?_
   refine RL.p T ?_
   first | refine RL.q (QV.shrP rfl rfl rfl (by exact (rfl : _ = ((_ : Nat) : Int))) (by omega) rfl) ?_ | refine RL.q (QV.shift rfl rfl rfl (by omega) (.inr ⟨rfl, rfl⟩)) ?_
   first | refine RL.cv T ?_ | refine RL.p T ?_ | refine RL.ts T ?_
   refine RL.p T ?_
   first | refine RL.cv T ?_ | refine RL.p T ?_ | refine RL.ts T ?_
   refine RL.bs T rfl rfl rfl (by exact (rfl : _ = some [_, _])) (fun b19_0 => ?_)
   first | refine RL.apI1 (ki := .u8) T (fun a0_ c0_ => ?_) | refine RL.apI (ki := .u8) T (fun a0_ c0_ => ?_) (hR := fun hs => (by repeat first | exact hS | apply Rd.cons | apply Rd.app)) | refine RL.apI (ki := .u8) (xs := []) T (fun a0_ c0_ => ?_) (hR := fun hs => (by repeat first | exact hS | apply Rd.cons | apply Rd.app))
   refine RL.p T ?_
   refine RL.nil _ _ _ _ ?_
   refine hK5 _ _ _ ?_
   refine SW.region _ _ _ _ ?_
   first | refine RL.ar ?_ | refine RL.p T ?_
   refine RL.p T ?_
   refine RL.nil _ _ _ _ ?_
   exact ⟨m - (k + 1), (by omega), k + 1, a0_, c0_, (by rfl), by omega, (.cons rfl (.consI rfl (by first | omega | rfl) (.nil (by repeat first | exact Mx.refl | exact Mx.mix | refine Mx.put rfl ?_ | refine Mx.upd rfl ?_ | refine Mx.updl rfl ?_ | refine Mx.fin rfl ?_ | refine Mx.inner rfl ?_ | refine Mx.none ?_)))), rfl, (by rw [take_succ (by omega), List.flatMap_append, ← List.append_assoc]; rfl)⟩
  ·skip
   refine SW.exit ?_
   refine hK1 _ _ _ ?_
   refine SW.seq_k fun K7 hK7 => ?_
   refine SW.region _ _ _ _ ?_
   refine RL.p T ?_
   refine RL.p T ?_
   refine RL.nil _ _ _ _ ?_
   refine hK7 _ _ _ ?_
   refine SW.ret ?_
   refine retQ.rr ((.row a (n + 2 * k) c 5 1 ((xs ++ (ys.take k).flatMap two).map (.int .u8)) :: H)) ?_
   clear hK7 K7 hK4 K4 hK3 K3 hK2 K2 hK1 K1 hK0 K0
   obtain rfl : m = k := by omega
   rw [List.take_of_length_le (by omega)]
   exact ⟨a, c, rfl, rfl⟩
theorem get16 {w0 : World} {H : List Chunk} (sa : Option Addr) (n c : Nat) (es : List Int) (hR : Rd w0 H sa n c 1 (es.map (.int .u8))) (hn : n = es.length) (hm : 2 ≤ n) (hB : Byte es) : SC Try.prog w0 30 #[.slice sa n c] H (fun v H' => v = .int .u16 (bi es 0 * 256 + bi es 1) ∧ H' = H) := by
 refine SC.enter Try.func30 rfl (Nat.le_of_ble_eq_true rfl) ?_
 refine SW.seq_k fun K0 hK0 => ?_
 refine SW.region _ _ _ _ ?_
 refine RL.p T ?_
 refine RL.nil _ _ _ _ ?_
 refine hK0 _ _ _ ?_
 refine SW.seq_k fun K1 hK1 => ?_
 have h0 := hB.get (Int.toNat 0)
 have h1 := hB.get (Int.toNat 1)
 refine SW.drawQ [(3, 0), (4, 1), (5, 2), (6, 3), (7, 4), (8, 5), (9, 6), (10, 7), (11, 8), (12, 9), (2, 10)] [[], [0], [1, 0], [2, 1, 0], [3, 2, 1, 0], [], [5], [6, 5], [7, 6, 5], [4, 3, 2, 1, 0, 8, 7, 6, 5], [9, 4, 3, 2, 1, 0, 8, 7, 6, 5]] mixed (by kernel_rfl) (by kernel_rfl) ?_
 refine QL.p T ?_
 refine QL.ix T ?_ (hR := fun hs => (by repeat first | exact hR | apply Rd.cons | apply Rd.app))
 refine QL.le T ?_ (hR := fun hs => (by repeat first | exact hR | apply Rd.cons | apply Rd.app))
 refine QL.step (by first | exact Gd.none rfl | exact Gd.yes rfl rfl | exact Gd.yes rfl (congrArg Value.bool (by assumption))) rfl (QV.convI T rfl rfl rfl rfl (by simp only [loK]; omega) (by simp only [hiK]; omega)) ?_
 refine QL.step (by first | exact Gd.none rfl | exact Gd.yes rfl rfl | exact Gd.yes rfl (congrArg Value.bool (by assumption))) rfl (QV.shlP (s := 8) rfl rfl rfl rfl rfl (by simp only [loK]; omega) (by simp only [hiK]; omega)) ?_
 refine QL.p T ?_
 refine QL.ix T ?_ (hR := fun hs => (by repeat first | exact hR | apply Rd.cons | apply Rd.app))
 refine QL.le T ?_ (hR := fun hs => (by repeat first | exact hR | apply Rd.cons | apply Rd.app))
 refine QL.step (by first | exact Gd.none rfl | exact Gd.yes rfl rfl | exact Gd.yes rfl (congrArg Value.bool (by assumption))) rfl (QV.convI T rfl rfl rfl rfl (by simp only [loK]; omega) (by simp only [hiK]; omega)) ?_
 refine QL.step (by first | exact Gd.none rfl | exact Gd.yes rfl rfl | exact Gd.yes rfl (congrArg Value.bool (by assumption))) rfl (QV.orD T (es.getD (Int.toNat 0) 0).toNat 8 rfl rfl rfl rfl (by rw [Int.toNat_of_nonneg h0.1]) (by omega) (by omega) (by simp only [hiK]; omega)) ?_
 refine QL.p T ?_
 refine QL.nil ?_
 refine hK1 _ _ _ ?_
 refine SW.ret ?_
 refine retQ.rr (H) ?_
 clear hK1 K1 hK0 K0
 exact ⟨rfl, rfl⟩
theorem putold_ok {w0 : World} {H : List Chunk} (f : Frm) (sa : Option Addr) (n c : Nat) (hR : Rd w0 H sa n c 1 (f.data.map (.int .u8))) (hn : n = f.data.length) (hm : n ≤ 140737488351232) (hf : FrOk f) (hk3 : f.kind ≠ 3) (hc : chkF f = 0) : SC Try.prog w0 9 #[FA f sa n c] H (fun v H' => ∃ a c, v = .tuple #[.slice a (oldB f).length c, .int .i64 0] ∧ H' = .row a (oldB f).length c 5 1 ((oldB f).map (.int .u8)) :: H) := by
 refine SC.enter Try.func9 rfl (Nat.le_of_ble_eq_true rfl) ?_
 refine SW.seq_k fun K0 hK0 => ?_
 have hfk := hf.kind
 have hfi := hf.id
 have hfl := old_max (f := f) hk3 hc
 have hol := oldB_len f
 refine SW.region _ _ _ _ ?_
 refine RL.s ?_
 refine NV.box rfl (by exact (rfl : _ = [_, _, _, _, _, _, _, _, _, _, _])) ?_
 intro b1_0
 refine RL.p T ?_
 refine RL.p T ?_
 refine RL.nil _ _ _ _ ?_
 refine hK0 _ _ _ ?_
 refine SW.seq_k fun K1 hK1 => ?_
 refine SW.seq_k fun K2 hK2 => ?_
 refine SW.region _ _ _ _ ?_
 refine RL.p T ?_
 refine RL.lv1 T ?_
 refine RL.p T ?_
 refine RL.p T ?_
 refine RL.join (fr1 := ?_) 3 11 false [12, 13, 14] (fun hs0 hj => ?_) ?_ ?_
 rotate_left
 ·have hs0j := hs0
  try simp only [decide_eq_true_eq, Bool.not_eq_true', decide_eq_false_iff_not, Bool.not_eq_false', Int.not_lt, Int.not_le, Int.toNat_natCast, Bool.and_eq_true, Bool.or_eq_true, Bool.and_eq_false_iff, Bool.or_eq_false_iff] at hs0
  refine RL.q (QV.vN T rfl rfl rfl rfl rfl (by exact (rfl : _ = [_, _, _, _, _, _, _, _, _, _, _]))) ?_
  refine RL.c fun25 (fun hs => fcheck f sa n c hR.cons hn hm hf) ?_
  rintro _ _ ⟨rfl, e⟩; obtain rfl := e.symm
  refine RL.p T ?_
  exact hj
 ·repeat first | exact Mx.refl | exact Mx.mix | refine Mx.put rfl ?_ | refine Mx.upd rfl ?_ | refine Mx.updl rfl ?_ | refine Mx.fin rfl ?_ | refine Mx.inner rfl ?_ | refine Mx.none ?_
 refine RL.or ?_
 refine RL.nil _ _ _ _ ?_
 refine hK2 _ _ _ ?_
 refine SW.cs (fun hc0 => ?_) (fun hc0 => ?_)
 ·skip
  first
   | (exfalso; first | omega | contradiction | (simp at *; done))
   | (
    refine SW.seq_k fun K3 hK3 => ?_
    refine SW.region _ _ _ _ ?_
    refine RL.p T ?_
    refine RL.p T ?_
    refine RL.nil _ _ _ _ ?_
    refine hK3 _ _ _ ?_
    refine SW.ret ?_
    refine retQ.rr ((.row a1_ (1 + 2 * 2 + 1 + n) c1_ 5 1 ((([flagsF f] ++ [f.id / 2 ^ 16, f.id % 65536].flatMap two) ++ [(n : Int) % 256] ++ f.data).map (.int .u8)) :: H)) ?_
    clear hK3 K3 hK2 K2 hK1 K1 hK0 K0
    exact ⟨a1_, c1_, by rw [hol, show 6 + f.data.length = 1 + 2 * 2 + 1 + n by omega]; rfl, by rw [old_row hf hn, hol, show 1 + 2 * 2 + 1 + n = 6 + f.data.length by omega]⟩
    )
 ·skip
  first
   | (exfalso; first | omega | contradiction | (simp at *; done))
   | (
    refine SW.skip ?_
    refine hK1 _ _ _ ?_
    refine SW.seq_k fun K4 hK4 => ?_
    refine SW.region _ _ _ _ ?_
    refine RL.p T ?_
    refine RL.nil _ _ _ _ ?_
    refine hK4 _ _ _ ?_
    refine SW.seq_k fun K5 hK5 => ?_
    refine SW.seq_k fun K6 hK6 => ?_
    refine SW.region _ _ _ _ ?_
    refine RL.c fun26 (fun hs => marks b1_0 f sa n c) ?_
    rintro _ _ ⟨fd, rfl, e⟩; obtain rfl := e.symm
    refine RL.p T ?_
    refine RL.nil _ _ _ _ ?_
    refine hK6 _ _ _ ?_
    refine SW.block ?_
    refine SW.loopM (fun frB mm fr ds HH => ∃ (k : Nat), mm = 5 - k ∧ (k ≤ 5) ∧ FrIs [4, 5, 6, 17, 18, 19, 20, 21, 22, 23, 24, 25, 26, 27, 28] frB fr [(4, .int .u8 (flagsI f k)), (17, .int .i64 k)] ∧ ds = [] ∧ HH = (.var fd 4 [.bool (decide (f.kind = 2))] :: .var b1_0 25 (FC f sa n c) :: H)) (n := 5 - 0) ?_ ?_
    ·exact ⟨0, rfl, by omega, (.consI rfl (by first | omega | rfl) (.consI rfl (by first | omega | rfl) (.nil (by repeat first | exact Mx.refl | exact Mx.mix | refine Mx.put rfl ?_ | refine Mx.upd rfl ?_ | refine Mx.updl rfl ?_ | refine Mx.fin rfl ?_ | refine Mx.inner rfl ?_ | refine Mx.none ?_)))), rfl, rfl⟩
    ·rintro mm fr ds HH ⟨k, rfl, hk5, hFr, rfl, eHH⟩
     obtain rfl := eHH.symm
     obtain ⟨frU, rfl⟩ := hFr.eq
     clear hFr
     rcases (by omega : k = 0 ∨ k = 1 ∨ k = 2 ∨ k = 3 ∨ k = 4 ∨ k = 5) with rfl | rfl | rfl | rfl | rfl | rfl
     ·skip
      refine SW.seq_k fun K7 hK7 => ?_
      refine SW.region _ _ _ _ ?_
      refine RL.p T ?_
      refine RL.nil _ _ _ _ ?_
      refine hK7 _ _ _ ?_
      refine SW.seq_k fun K8 hK8 => ?_
      refine SW.cs (fun hc1 => ?_) (fun hc1 => ?_)
      ·skip
       first
        | (exfalso; first | omega | contradiction | (simp at *; done))
        | (
         refine SW.skip ?_
         refine hK8 _ _ _ ?_
         refine SW.seq_k fun K9 hK9 => ?_
         refine SW.block ?_
         refine SW.seq_k fun K10 hK10 => ?_
         refine SW.region _ _ _ _ ?_
         refine RL.p T ?_
         refine RL.p T ?_
         refine RL.p T ?_
         refine RL.p T ?_
         refine RL.nil _ _ _ _ ?_
         refine hK10 _ _ _ ?_
         refine SW.seq_k fun K11 hK11 => ?_
         refine SW.region _ _ _ _ ?_
         refine RL.p T ?_
         refine RL.p T ?_
         first | refine RL.lv1 T ?_ | refine RL.le T ?_
         refine RL.nil _ _ _ _ ?_
         refine hK11 _ _ _ ?_
         refine SW.cs (fun hc2 => ?_) (fun hc2 => ?_)
         ·skip
          have hT : flagsI f 1 = flagsI f 0 + 1 := by simp [flagsI, b2, hc2]
          first
           | (exfalso; first | omega | contradiction | (simp at *; done))
           | (
            refine SW.region _ _ _ _ ?_
            refine RL.p T ?_
            refine RL.p T ?_
            first | refine RL.q (QV.shlP rfl rfl rfl (by exact (rfl : _ = ((_ : Nat) : Int))) rfl (by simp only [loK]; omega) (by simp only [hiK]; omega)) ?_ | refine RL.q (QV.shift rfl rfl rfl (by omega) (.inl ⟨rfl, rfl⟩)) ?_
            have hr := flagsI_rng f 0
            refine RL.q (QV.orL T 1 0 rfl rfl rfl rfl (by rfl) (by omega) (by omega) (by simp only [hiK]; omega)) ?_
            refine RL.p T ?_
            refine RL.nil _ _ _ _ ?_
            refine hK9 _ _ _ ?_
            refine SW.region _ _ _ _ ?_
            first | refine RL.ar ?_ | refine RL.p T ?_
            refine RL.p T ?_
            refine RL.nil _ _ _ _ ?_
            exact ⟨5 - 1, (by omega), 1, (by rfl), by omega, (.consI rfl (by first | omega | rfl) (.consI rfl (by first | omega | rfl) (.nil (by repeat first | exact Mx.refl | exact Mx.mix | refine Mx.put rfl ?_ | refine Mx.upd rfl ?_ | refine Mx.updl rfl ?_ | refine Mx.fin rfl ?_ | refine Mx.inner rfl ?_ | refine Mx.none ?_)))), rfl, rfl⟩
            )
         ·skip
          have hT : flagsI f 1 = flagsI f 0 := by simp [flagsI, b2, hc2]
          first
           | (exfalso; first | omega | contradiction | (simp at *; done))
           | (
            refine SW.skip ?_
            refine hK9 _ _ _ ?_
            refine SW.region _ _ _ _ ?_
            first | refine RL.ar ?_ | refine RL.p T ?_
            refine RL.p T ?_
            refine RL.nil _ _ _ _ ?_
            exact ⟨5 - 1, (by omega), 1, (by rfl), by omega, (.consI rfl (by first | omega | rfl) (.consI rfl (by first | omega | rfl) (.nil (by repeat first | exact Mx.refl | exact Mx.mix | refine Mx.put rfl ?_ | refine Mx.upd rfl ?_ | refine Mx.updl rfl ?_ | refine Mx.fin rfl ?_ | refine Mx.inner rfl ?_ | refine Mx.none ?_)))), rfl, rfl⟩
            )
         )
      ·skip
       first
        | (exfalso; first | omega | contradiction | (simp at *; done))
        | (
         refine SW.exit ?_
         refine hK5 _ _ _ ?_
         refine SW.seq_k fun K12 hK12 => ?_
         refine SW.region _ _ _ _ ?_
         refine RL.p T ?_
         refine RL.bs T rfl rfl rfl (by exact (rfl : _ = some [_])) (fun b30_1 => ?_)
         refine RL.p T ?_
         refine RL.lv1 T ?_
         first | refine RL.q (QV.shrP rfl rfl rfl (by exact (rfl : _ = ((_ : Nat) : Int))) (by omega) rfl) ?_ | refine RL.q (QV.shift rfl rfl rfl (by omega) (.inr ⟨rfl, rfl⟩)) ?_
         first | refine RL.cv T ?_ | refine RL.p T ?_ | refine RL.ts T ?_
         refine RL.p T ?_
         refine RL.lv1 T ?_
         refine RL.q (QV.wrapU T rfl rfl rfl rfl (wrap16_mod _)) ?_
         refine RL.bs T rfl rfl rfl (by exact (rfl : _ = some [_, _])) (fun b38_2 => ?_)
         refine RL.c fun27 (fun hs => (SC.swap (put16 _ 1 1 [flagsF f] rfl (by omega) _ 2 2 [f.id / 2 ^ 16, f.id % 65536] (Rd.rowh (sat2 hs) (At.head _ _)) rfl (by omega) (two_ok (by omega) (by omega))))) ?_
         rintro _ _ ⟨ap, cp, rfl, e⟩; obtain rfl := e.symm
         refine RL.p T ?_
         refine RL.nil _ _ _ _ ?_
         refine hK12 _ _ _ ?_
         refine SW.seq_k fun K13 hK13 => ?_
         refine SW.draw [(40, 0), (41, 1), (42, 2), (43, 3), (44, 4), (45, 5), (46, 6), (47, 7), (48, 8), (49, 9), (2, 10), (3, 11)] [[], [], [1], [2, 1], [3, 2, 1], [4, 3, 2, 1], [0, 5, 4, 3, 2, 1], [], [7], [6, 0, 5, 4, 3, 2, 1, 8, 7], [9, 6, 0, 5, 4, 3, 2, 1, 8, 7], [10, 9, 6, 0, 5, 4, 3, 2, 1, 8, 7]] mixed (by kernel_rfl) (by kernel_rfl) ?_
         refine RD.p T ?_
         refine RD.p T ?_
         refine RD.q rfl rfl (Gd.none rfl) (QV.v1 T) ?_
         refine RD.p T ?_
         refine RD.q rfl rfl (Gd.none rfl) (QV.wrapU T rfl rfl rfl rfl (wrap8_mod _)) ?_
         refine RD.p T ?_
         refine RD.q rfl rfl (Gd.none rfl) (QV.v1 T) ?_
         refine RD.nv rfl rfl rfl (Gd.none rfl) ?_
         refine NV.build1 T rfl (by conv => lhs; whnf) rfl rfl (by conv => lhs; whnf) (by exact (rfl : _ = some [_])) ?_
         intro b45_3
         refine ⟨(Stab.cons rfl (Gd.none rfl) (QV.v1 T) (Stab.cons rfl (Gd.none rfl) (pev_sound T rfl) (Stab.cons rfl (Gd.none rfl) (pev_sound T rfl) Stab.nil))), ?_⟩
         refine RD.nv rfl rfl rfl (Gd.none rfl) ?_
         first
           | refine NV.apI1 (ki := .u8) T ?_
           | refine NV.apI (ki := .u8) T ?_ (hR := fun hs => hR.cons.cons.cons.cons)
         intro a1_ c1_
         refine ⟨(Stab.cons rfl (Gd.none rfl) (QV.v1 T) (Stab.cons rfl (Gd.none rfl) (pev_sound T rfl) Stab.nil)), ?_⟩
         refine RD.nv rfl rfl rfl (Gd.none rfl) ?_
         first
           | refine NV.apI1 (ki := .u8) T ?_
           | refine NV.apI (ki := .u8) T ?_ (hR := fun hs => hR.cons.cons.cons.cons)
         intro a1_ c1_
         refine ⟨Stab.nil, ?_⟩
         refine RD.p T ?_
         refine RD.p T ?_
         refine RD.k rfl rfl ?_
         refine hK13 _ _ _ ?_
         refine SW.ret ?_
         refine retQ.rr ((.row a1_ (1 + 2 * 2 + 1 + n) c1_ 5 1 ((([flagsF f] ++ [f.id / 2 ^ 16, f.id % 65536].flatMap two) ++ [(n : Int) % 256] ++ f.data).map (.int .u8)) :: H)) ?_
         clear hK13 K13 hK12 K12 hK8 K8 hK7 K7 hK6 K6 hK5 K5 hK4 K4 hK2 K2 hK1 K1 hK0 K0
         exact ⟨a1_, c1_, by rw [hol, show 6 + f.data.length = 1 + 2 * 2 + 1 + n by omega]; rfl, by rw [old_row hf hn, hol, show 1 + 2 * 2 + 1 + n = 6 + f.data.length by omega]⟩
         )
     ·skip
      refine SW.seq_k fun K14 hK14 => ?_
      refine SW.region _ _ _ _ ?_
      refine RL.p T ?_
      refine RL.nil _ _ _ _ ?_
      refine hK14 _ _ _ ?_
      refine SW.seq_k fun K15 hK15 => ?_
      refine SW.cs (fun hc3 => ?_) (fun hc3 => ?_)
      ·skip
       first
        | (exfalso; first | omega | contradiction | (simp at *; done))
        | (
         refine SW.skip ?_
         refine hK15 _ _ _ ?_
         refine SW.seq_k fun K16 hK16 => ?_
         refine SW.block ?_
         refine SW.seq_k fun K17 hK17 => ?_
         refine SW.region _ _ _ _ ?_
         refine RL.p T ?_
         refine RL.p T ?_
         refine RL.p T ?_
         refine RL.p T ?_
         refine RL.nil _ _ _ _ ?_
         refine hK17 _ _ _ ?_
         refine SW.seq_k fun K18 hK18 => ?_
         refine SW.region _ _ _ _ ?_
         refine RL.p T ?_
         refine RL.p T ?_
         first | refine RL.lv1 T ?_ | refine RL.le T ?_
         refine RL.nil _ _ _ _ ?_
         refine hK18 _ _ _ ?_
         refine SW.cs (fun hc4 => ?_) (fun hc4 => ?_)
         ·skip
          have hT : flagsI f 2 = flagsI f 1 + 2 := by simp [flagsI, b2, hc4]
          first
           | (exfalso; first | omega | contradiction | (simp at *; done))
           | (
            refine SW.region _ _ _ _ ?_
            refine RL.p T ?_
            refine RL.p T ?_
            first | refine RL.q (QV.shlP rfl rfl rfl (by exact (rfl : _ = ((_ : Nat) : Int))) rfl (by simp only [loK]; omega) (by simp only [hiK]; omega)) ?_ | refine RL.q (QV.shift rfl rfl rfl (by omega) (.inl ⟨rfl, rfl⟩)) ?_
            have hr := flagsI_rng f 1
            refine RL.q (QV.orL T 1 1 rfl rfl rfl rfl (by rfl) (by omega) (by omega) (by simp only [hiK]; omega)) ?_
            refine RL.p T ?_
            refine RL.nil _ _ _ _ ?_
            refine hK16 _ _ _ ?_
            refine SW.region _ _ _ _ ?_
            first | refine RL.ar ?_ | refine RL.p T ?_
            refine RL.p T ?_
            refine RL.nil _ _ _ _ ?_
            exact ⟨5 - 2, (by omega), 2, (by rfl), by omega, (.consI rfl (by first | omega | rfl) (.consI rfl (by first | omega | rfl) (.nil (by repeat first | exact Mx.refl | exact Mx.mix | refine Mx.put rfl ?_ | refine Mx.upd rfl ?_ | refine Mx.updl rfl ?_ | refine Mx.fin rfl ?_ | refine Mx.inner rfl ?_ | refine Mx.none ?_)))), rfl, rfl⟩
            )
         ·skip
          have hT : flagsI f 2 = flagsI f 1 := by simp [flagsI, b2, hc4]
          first
           | (exfalso; first | omega | contradiction | (simp at *; done))
           | (
            refine SW.skip ?_
            refine hK16 _ _ _ ?_
            refine SW.region _ _ _ _ ?_
            first | refine RL.ar ?_ | refine RL.p T ?_
            refine RL.p T ?_
            refine RL.nil _ _ _ _ ?_
            exact ⟨5 - 2, (by omega), 2, (by rfl), by omega, (.consI rfl (by first | omega | rfl) (.consI rfl (by first | omega | rfl) (.nil (by repeat first | exact Mx.refl | exact Mx.mix | refine Mx.put rfl ?_ | refine Mx.upd rfl ?_ | refine Mx.updl rfl ?_ | refine Mx.fin rfl ?_ | refine Mx.inner rfl ?_ | refine Mx.none ?_)))), rfl, rfl⟩
            )
         )
      ·skip
       first
        | (exfalso; first | omega | contradiction | (simp at *; done))
        | (
         refine SW.exit ?_
         refine hK5 _ _ _ ?_
         refine SW.seq_k fun K19 hK19 => ?_
         refine SW.region _ _ _ _ ?_
         refine RL.p T ?_
         refine RL.bs T rfl rfl rfl (by exact (rfl : _ = some [_])) (fun b30_4 => ?_)
         refine RL.p T ?_
         refine RL.lv1 T ?_
         first | refine RL.q (QV.shrP rfl rfl rfl (by exact (rfl : _ = ((_ : Nat) : Int))) (by omega) rfl) ?_ | refine RL.q (QV.shift rfl rfl rfl (by omega) (.inr ⟨rfl, rfl⟩)) ?_
         first | refine RL.cv T ?_ | refine RL.p T ?_ | refine RL.ts T ?_
         refine RL.p T ?_
         refine RL.lv1 T ?_
         refine RL.q (QV.wrapU T rfl rfl rfl rfl (wrap16_mod _)) ?_
         refine RL.bs T rfl rfl rfl (by exact (rfl : _ = some [_, _])) (fun b38_5 => ?_)
         refine RL.c fun27 (fun hs => (SC.swap (put16 _ 1 1 [flagsF f] rfl (by omega) _ 2 2 [f.id / 2 ^ 16, f.id % 65536] (Rd.rowh (sat2 hs) (At.head _ _)) rfl (by omega) (two_ok (by omega) (by omega))))) ?_
         rintro _ _ ⟨ap, cp, rfl, e⟩; obtain rfl := e.symm
         refine RL.p T ?_
         refine RL.nil _ _ _ _ ?_
         refine hK19 _ _ _ ?_
         refine SW.seq_k fun K20 hK20 => ?_
         refine SW.draw [(40, 0), (41, 1), (42, 2), (43, 3), (44, 4), (45, 5), (46, 6), (47, 7), (48, 8), (49, 9), (2, 10), (3, 11)] [[], [], [1], [2, 1], [3, 2, 1], [4, 3, 2, 1], [0, 5, 4, 3, 2, 1], [], [7], [6, 0, 5, 4, 3, 2, 1, 8, 7], [9, 6, 0, 5, 4, 3, 2, 1, 8, 7], [10, 9, 6, 0, 5, 4, 3, 2, 1, 8, 7]] mixed (by kernel_rfl) (by kernel_rfl) ?_
         refine RD.p T ?_
         refine RD.p T ?_
         refine RD.q rfl rfl (Gd.none rfl) (QV.v1 T) ?_
         refine RD.p T ?_
         refine RD.q rfl rfl (Gd.none rfl) (QV.wrapU T rfl rfl rfl rfl (wrap8_mod _)) ?_
         refine RD.p T ?_
         refine RD.q rfl rfl (Gd.none rfl) (QV.v1 T) ?_
         refine RD.nv rfl rfl rfl (Gd.none rfl) ?_
         refine NV.build1 T rfl (by conv => lhs; whnf) rfl rfl (by conv => lhs; whnf) (by exact (rfl : _ = some [_])) ?_
         intro b45_6
         refine ⟨(Stab.cons rfl (Gd.none rfl) (QV.v1 T) (Stab.cons rfl (Gd.none rfl) (pev_sound T rfl) (Stab.cons rfl (Gd.none rfl) (pev_sound T rfl) Stab.nil))), ?_⟩
         refine RD.nv rfl rfl rfl (Gd.none rfl) ?_
         first
           | refine NV.apI1 (ki := .u8) T ?_
           | refine NV.apI (ki := .u8) T ?_ (hR := fun hs => hR.cons.cons.cons.cons)
         intro a1_ c1_
         refine ⟨(Stab.cons rfl (Gd.none rfl) (QV.v1 T) (Stab.cons rfl (Gd.none rfl) (pev_sound T rfl) Stab.nil)), ?_⟩
         refine RD.nv rfl rfl rfl (Gd.none rfl) ?_
         first
           | refine NV.apI1 (ki := .u8) T ?_
           | refine NV.apI (ki := .u8) T ?_ (hR := fun hs => hR.cons.cons.cons.cons)
         intro a1_ c1_
         refine ⟨Stab.nil, ?_⟩
         refine RD.p T ?_
         refine RD.p T ?_
         refine RD.k rfl rfl ?_
         refine hK20 _ _ _ ?_
         refine SW.ret ?_
         refine retQ.rr ((.row a1_ (1 + 2 * 2 + 1 + n) c1_ 5 1 ((([flagsF f] ++ [f.id / 2 ^ 16, f.id % 65536].flatMap two) ++ [(n : Int) % 256] ++ f.data).map (.int .u8)) :: H)) ?_
         clear hK20 K20 hK19 K19 hK15 K15 hK14 K14 hK6 K6 hK5 K5 hK4 K4 hK2 K2 hK1 K1 hK0 K0
         exact ⟨a1_, c1_, by rw [hol, show 6 + f.data.length = 1 + 2 * 2 + 1 + n by omega]; rfl, by rw [old_row hf hn, hol, show 1 + 2 * 2 + 1 + n = 6 + f.data.length by omega]⟩
         )
     ·skip
      refine SW.seq_k fun K21 hK21 => ?_
      refine SW.region _ _ _ _ ?_
      refine RL.p T ?_
      refine RL.nil _ _ _ _ ?_
      refine hK21 _ _ _ ?_
      refine SW.seq_k fun K22 hK22 => ?_
      refine SW.cs (fun hc5 => ?_) (fun hc5 => ?_)
      ·skip
       first
        | (exfalso; first | omega | contradiction | (simp at *; done))
        | (
         refine SW.skip ?_
         refine hK22 _ _ _ ?_
         refine SW.seq_k fun K23 hK23 => ?_
         refine SW.block ?_
         refine SW.seq_k fun K24 hK24 => ?_
         refine SW.region _ _ _ _ ?_
         refine RL.p T ?_
         refine RL.p T ?_
         refine RL.p T ?_
         refine RL.p T ?_
         refine RL.nil _ _ _ _ ?_
         refine hK24 _ _ _ ?_
         refine SW.seq_k fun K25 hK25 => ?_
         refine SW.region _ _ _ _ ?_
         refine RL.p T ?_
         refine RL.p T ?_
         first | refine RL.lv1 T ?_ | refine RL.le T ?_
         refine RL.nil _ _ _ _ ?_
         refine hK25 _ _ _ ?_
         refine SW.cs (fun hc6 => ?_) (fun hc6 => ?_)
         ·skip
          have hT : flagsI f 3 = flagsI f 2 + 4 := by simp [flagsI, b2, hc6]
          first
           | (exfalso; first | omega | contradiction | (simp at *; done))
           | (
            refine SW.region _ _ _ _ ?_
            refine RL.p T ?_
            refine RL.p T ?_
            first | refine RL.q (QV.shlP rfl rfl rfl (by exact (rfl : _ = ((_ : Nat) : Int))) rfl (by simp only [loK]; omega) (by simp only [hiK]; omega)) ?_ | refine RL.q (QV.shift rfl rfl rfl (by omega) (.inl ⟨rfl, rfl⟩)) ?_
            have hr := flagsI_rng f 2
            refine RL.q (QV.orL T 1 2 rfl rfl rfl rfl (by rfl) (by omega) (by omega) (by simp only [hiK]; omega)) ?_
            refine RL.p T ?_
            refine RL.nil _ _ _ _ ?_
            refine hK23 _ _ _ ?_
            refine SW.region _ _ _ _ ?_
            first | refine RL.ar ?_ | refine RL.p T ?_
            refine RL.p T ?_
            refine RL.nil _ _ _ _ ?_
            exact ⟨5 - 3, (by omega), 3, (by rfl), by omega, (.consI rfl (by first | omega | rfl) (.consI rfl (by first | omega | rfl) (.nil (by repeat first | exact Mx.refl | exact Mx.mix | refine Mx.put rfl ?_ | refine Mx.upd rfl ?_ | refine Mx.updl rfl ?_ | refine Mx.fin rfl ?_ | refine Mx.inner rfl ?_ | refine Mx.none ?_)))), rfl, rfl⟩
            )
         ·skip
          have hT : flagsI f 3 = flagsI f 2 := by simp [flagsI, b2, hc6]
          first
           | (exfalso; first | omega | contradiction | (simp at *; done))
           | (
            refine SW.skip ?_
            refine hK23 _ _ _ ?_
            refine SW.region _ _ _ _ ?_
            first | refine RL.ar ?_ | refine RL.p T ?_
            refine RL.p T ?_
            refine RL.nil _ _ _ _ ?_
            exact ⟨5 - 3, (by omega), 3, (by rfl), by omega, (.consI rfl (by first | omega | rfl) (.consI rfl (by first | omega | rfl) (.nil (by repeat first | exact Mx.refl | exact Mx.mix | refine Mx.put rfl ?_ | refine Mx.upd rfl ?_ | refine Mx.updl rfl ?_ | refine Mx.fin rfl ?_ | refine Mx.inner rfl ?_ | refine Mx.none ?_)))), rfl, rfl⟩
            )
         )
      ·skip
       first
        | (exfalso; first | omega | contradiction | (simp at *; done))
        | (
         refine SW.exit ?_
         refine hK5 _ _ _ ?_
         refine SW.seq_k fun K26 hK26 => ?_
         refine SW.region _ _ _ _ ?_
         refine RL.p T ?_
         refine RL.bs T rfl rfl rfl (by exact (rfl : _ = some [_])) (fun b30_7 => ?_)
         refine RL.p T ?_
         refine RL.lv1 T ?_
         first | refine RL.q (QV.shrP rfl rfl rfl (by exact (rfl : _ = ((_ : Nat) : Int))) (by omega) rfl) ?_ | refine RL.q (QV.shift rfl rfl rfl (by omega) (.inr ⟨rfl, rfl⟩)) ?_
         first | refine RL.cv T ?_ | refine RL.p T ?_ | refine RL.ts T ?_
         refine RL.p T ?_
         refine RL.lv1 T ?_
         refine RL.q (QV.wrapU T rfl rfl rfl rfl (wrap16_mod _)) ?_
         refine RL.bs T rfl rfl rfl (by exact (rfl : _ = some [_, _])) (fun b38_8 => ?_)
         refine RL.c fun27 (fun hs => (SC.swap (put16 _ 1 1 [flagsF f] rfl (by omega) _ 2 2 [f.id / 2 ^ 16, f.id % 65536] (Rd.rowh (sat2 hs) (At.head _ _)) rfl (by omega) (two_ok (by omega) (by omega))))) ?_
         rintro _ _ ⟨ap, cp, rfl, e⟩; obtain rfl := e.symm
         refine RL.p T ?_
         refine RL.nil _ _ _ _ ?_
         refine hK26 _ _ _ ?_
         refine SW.seq_k fun K27 hK27 => ?_
         refine SW.draw [(40, 0), (41, 1), (42, 2), (43, 3), (44, 4), (45, 5), (46, 6), (47, 7), (48, 8), (49, 9), (2, 10), (3, 11)] [[], [], [1], [2, 1], [3, 2, 1], [4, 3, 2, 1], [0, 5, 4, 3, 2, 1], [], [7], [6, 0, 5, 4, 3, 2, 1, 8, 7], [9, 6, 0, 5, 4, 3, 2, 1, 8, 7], [10, 9, 6, 0, 5, 4, 3, 2, 1, 8, 7]] mixed (by kernel_rfl) (by kernel_rfl) ?_
         refine RD.p T ?_
         refine RD.p T ?_
         refine RD.q rfl rfl (Gd.none rfl) (QV.v1 T) ?_
         refine RD.p T ?_
         refine RD.q rfl rfl (Gd.none rfl) (QV.wrapU T rfl rfl rfl rfl (wrap8_mod _)) ?_
         refine RD.p T ?_
         refine RD.q rfl rfl (Gd.none rfl) (QV.v1 T) ?_
         refine RD.nv rfl rfl rfl (Gd.none rfl) ?_
         refine NV.build1 T rfl (by conv => lhs; whnf) rfl rfl (by conv => lhs; whnf) (by exact (rfl : _ = some [_])) ?_
         intro b45_9
         refine ⟨(Stab.cons rfl (Gd.none rfl) (QV.v1 T) (Stab.cons rfl (Gd.none rfl) (pev_sound T rfl) (Stab.cons rfl (Gd.none rfl) (pev_sound T rfl) Stab.nil))), ?_⟩
         refine RD.nv rfl rfl rfl (Gd.none rfl) ?_
         first
           | refine NV.apI1 (ki := .u8) T ?_
           | refine NV.apI (ki := .u8) T ?_ (hR := fun hs => hR.cons.cons.cons.cons)
         intro a1_ c1_
         refine ⟨(Stab.cons rfl (Gd.none rfl) (QV.v1 T) (Stab.cons rfl (Gd.none rfl) (pev_sound T rfl) Stab.nil)), ?_⟩
         refine RD.nv rfl rfl rfl (Gd.none rfl) ?_
         first
           | refine NV.apI1 (ki := .u8) T ?_
           | refine NV.apI (ki := .u8) T ?_ (hR := fun hs => hR.cons.cons.cons.cons)
         intro a1_ c1_
         refine ⟨Stab.nil, ?_⟩
         refine RD.p T ?_
         refine RD.p T ?_
         refine RD.k rfl rfl ?_
         refine hK27 _ _ _ ?_
         refine SW.ret ?_
         refine retQ.rr ((.row a1_ (1 + 2 * 2 + 1 + n) c1_ 5 1 ((([flagsF f] ++ [f.id / 2 ^ 16, f.id % 65536].flatMap two) ++ [(n : Int) % 256] ++ f.data).map (.int .u8)) :: H)) ?_
         clear hK27 K27 hK26 K26 hK22 K22 hK21 K21 hK6 K6 hK5 K5 hK4 K4 hK2 K2 hK1 K1 hK0 K0
         exact ⟨a1_, c1_, by rw [hol, show 6 + f.data.length = 1 + 2 * 2 + 1 + n by omega]; rfl, by rw [old_row hf hn, hol, show 1 + 2 * 2 + 1 + n = 6 + f.data.length by omega]⟩
         )
     ·skip
      refine SW.seq_k fun K28 hK28 => ?_
      refine SW.region _ _ _ _ ?_
      refine RL.p T ?_
      refine RL.nil _ _ _ _ ?_
      refine hK28 _ _ _ ?_
      refine SW.seq_k fun K29 hK29 => ?_
      refine SW.cs (fun hc7 => ?_) (fun hc7 => ?_)
      ·skip
       first
        | (exfalso; first | omega | contradiction | (simp at *; done))
        | (
         refine SW.skip ?_
         refine hK29 _ _ _ ?_
         refine SW.seq_k fun K30 hK30 => ?_
         refine SW.block ?_
         refine SW.seq_k fun K31 hK31 => ?_
         refine SW.region _ _ _ _ ?_
         refine RL.p T ?_
         refine RL.p T ?_
         refine RL.p T ?_
         refine RL.p T ?_
         refine RL.nil _ _ _ _ ?_
         refine hK31 _ _ _ ?_
         refine SW.seq_k fun K32 hK32 => ?_
         refine SW.region _ _ _ _ ?_
         refine RL.p T ?_
         refine RL.p T ?_
         first | refine RL.lv1 T ?_ | refine RL.le T ?_
         refine RL.nil _ _ _ _ ?_
         refine hK32 _ _ _ ?_
         refine SW.cs (fun hc8 => ?_) (fun hc8 => ?_)
         ·skip
          have hT : flagsI f 4 = flagsI f 3 + 8 := by simp [flagsI, b2, hc8]
          first
           | (exfalso; first | omega | contradiction | (simp at *; done))
           | (
            refine SW.region _ _ _ _ ?_
            refine RL.p T ?_
            refine RL.p T ?_
            first | refine RL.q (QV.shlP rfl rfl rfl (by exact (rfl : _ = ((_ : Nat) : Int))) rfl (by simp only [loK]; omega) (by simp only [hiK]; omega)) ?_ | refine RL.q (QV.shift rfl rfl rfl (by omega) (.inl ⟨rfl, rfl⟩)) ?_
            have hr := flagsI_rng f 3
            refine RL.q (QV.orL T 1 3 rfl rfl rfl rfl (by rfl) (by omega) (by omega) (by simp only [hiK]; omega)) ?_
            refine RL.p T ?_
            refine RL.nil _ _ _ _ ?_
            refine hK30 _ _ _ ?_
            refine SW.region _ _ _ _ ?_
            first | refine RL.ar ?_ | refine RL.p T ?_
            refine RL.p T ?_
            refine RL.nil _ _ _ _ ?_
            exact ⟨5 - 4, (by omega), 4, (by rfl), by omega, (.consI rfl (by first | omega | rfl) (.consI rfl (by first | omega | rfl) (.nil (by repeat first | exact Mx.refl | exact Mx.mix | refine Mx.put rfl ?_ | refine Mx.upd rfl ?_ | refine Mx.updl rfl ?_ | refine Mx.fin rfl ?_ | refine Mx.inner rfl ?_ | refine Mx.none ?_)))), rfl, rfl⟩
            )
         ·skip
          have hT : flagsI f 4 = flagsI f 3 := by simp [flagsI, b2, hc8]
          first
           | (exfalso; first | omega | contradiction | (simp at *; done))
           | (
            refine SW.skip ?_
            refine hK30 _ _ _ ?_
            refine SW.region _ _ _ _ ?_
            first | refine RL.ar ?_ | refine RL.p T ?_
            refine RL.p T ?_
            refine RL.nil _ _ _ _ ?_
            exact ⟨5 - 4, (by omega), 4, (by rfl), by omega, (.consI rfl (by first | omega | rfl) (.consI rfl (by first | omega | rfl) (.nil (by repeat first | exact Mx.refl | exact Mx.mix | refine Mx.put rfl ?_ | refine Mx.upd rfl ?_ | refine Mx.updl rfl ?_ | refine Mx.fin rfl ?_ | refine Mx.inner rfl ?_ | refine Mx.none ?_)))), rfl, rfl⟩
            )
         )
      ·skip
       first
        | (exfalso; first | omega | contradiction | (simp at *; done))
        | (
         refine SW.exit ?_
         refine hK5 _ _ _ ?_
         refine SW.seq_k fun K33 hK33 => ?_
         refine SW.region _ _ _ _ ?_
         refine RL.p T ?_
         refine RL.bs T rfl rfl rfl (by exact (rfl : _ = some [_])) (fun b30_10 => ?_)
         refine RL.p T ?_
         refine RL.lv1 T ?_
         first | refine RL.q (QV.shrP rfl rfl rfl (by exact (rfl : _ = ((_ : Nat) : Int))) (by omega) rfl) ?_ | refine RL.q (QV.shift rfl rfl rfl (by omega) (.inr ⟨rfl, rfl⟩)) ?_
         first | refine RL.cv T ?_ | refine RL.p T ?_ | refine RL.ts T ?_
         refine RL.p T ?_
         refine RL.lv1 T ?_
         refine RL.q (QV.wrapU T rfl rfl rfl rfl (wrap16_mod _)) ?_
         refine RL.bs T rfl rfl rfl (by exact (rfl : _ = some [_, _])) (fun b38_11 => ?_)
         refine RL.c fun27 (fun hs => (SC.swap (put16 _ 1 1 [flagsF f] rfl (by omega) _ 2 2 [f.id / 2 ^ 16, f.id % 65536] (Rd.rowh (sat2 hs) (At.head _ _)) rfl (by omega) (two_ok (by omega) (by omega))))) ?_
         rintro _ _ ⟨ap, cp, rfl, e⟩; obtain rfl := e.symm
         refine RL.p T ?_
         refine RL.nil _ _ _ _ ?_
         refine hK33 _ _ _ ?_
         refine SW.seq_k fun K34 hK34 => ?_
         refine SW.draw [(40, 0), (41, 1), (42, 2), (43, 3), (44, 4), (45, 5), (46, 6), (47, 7), (48, 8), (49, 9), (2, 10), (3, 11)] [[], [], [1], [2, 1], [3, 2, 1], [4, 3, 2, 1], [0, 5, 4, 3, 2, 1], [], [7], [6, 0, 5, 4, 3, 2, 1, 8, 7], [9, 6, 0, 5, 4, 3, 2, 1, 8, 7], [10, 9, 6, 0, 5, 4, 3, 2, 1, 8, 7]] mixed (by kernel_rfl) (by kernel_rfl) ?_
         refine RD.p T ?_
         refine RD.p T ?_
         refine RD.q rfl rfl (Gd.none rfl) (QV.v1 T) ?_
         refine RD.p T ?_
         refine RD.q rfl rfl (Gd.none rfl) (QV.wrapU T rfl rfl rfl rfl (wrap8_mod _)) ?_
         refine RD.p T ?_
         refine RD.q rfl rfl (Gd.none rfl) (QV.v1 T) ?_
         refine RD.nv rfl rfl rfl (Gd.none rfl) ?_
         refine NV.build1 T rfl (by conv => lhs; whnf) rfl rfl (by conv => lhs; whnf) (by exact (rfl : _ = some [_])) ?_
         intro b45_12
         refine ⟨(Stab.cons rfl (Gd.none rfl) (QV.v1 T) (Stab.cons rfl (Gd.none rfl) (pev_sound T rfl) (Stab.cons rfl (Gd.none rfl) (pev_sound T rfl) Stab.nil))), ?_⟩
         refine RD.nv rfl rfl rfl (Gd.none rfl) ?_
         first
           | refine NV.apI1 (ki := .u8) T ?_
           | refine NV.apI (ki := .u8) T ?_ (hR := fun hs => hR.cons.cons.cons.cons)
         intro a1_ c1_
         refine ⟨(Stab.cons rfl (Gd.none rfl) (QV.v1 T) (Stab.cons rfl (Gd.none rfl) (pev_sound T rfl) Stab.nil)), ?_⟩
         refine RD.nv rfl rfl rfl (Gd.none rfl) ?_
         first
           | refine NV.apI1 (ki := .u8) T ?_
           | refine NV.apI (ki := .u8) T ?_ (hR := fun hs => hR.cons.cons.cons.cons)
         intro a1_ c1_
         refine ⟨Stab.nil, ?_⟩
         refine RD.p T ?_
         refine RD.p T ?_
         refine RD.k rfl rfl ?_
         refine hK34 _ _ _ ?_
         refine SW.ret ?_
         refine retQ.rr ((.row a1_ (1 + 2 * 2 + 1 + n) c1_ 5 1 ((([flagsF f] ++ [f.id / 2 ^ 16, f.id % 65536].flatMap two) ++ [(n : Int) % 256] ++ f.data).map (.int .u8)) :: H)) ?_
         clear hK34 K34 hK33 K33 hK29 K29 hK28 K28 hK6 K6 hK5 K5 hK4 K4 hK2 K2 hK1 K1 hK0 K0
         exact ⟨a1_, c1_, by rw [hol, show 6 + f.data.length = 1 + 2 * 2 + 1 + n by omega]; rfl, by rw [old_row hf hn, hol, show 1 + 2 * 2 + 1 + n = 6 + f.data.length by omega]⟩
         )
     ·skip
      refine SW.seq_k fun K35 hK35 => ?_
      refine SW.region _ _ _ _ ?_
      refine RL.p T ?_
      refine RL.nil _ _ _ _ ?_
      refine hK35 _ _ _ ?_
      refine SW.seq_k fun K36 hK36 => ?_
      refine SW.cs (fun hc9 => ?_) (fun hc9 => ?_)
      ·skip
       first
        | (exfalso; first | omega | contradiction | (simp at *; done))
        | (
         refine SW.skip ?_
         refine hK36 _ _ _ ?_
         refine SW.seq_k fun K37 hK37 => ?_
         refine SW.block ?_
         refine SW.seq_k fun K38 hK38 => ?_
         refine SW.region _ _ _ _ ?_
         refine RL.p T ?_
         refine RL.p T ?_
         refine RL.p T ?_
         refine RL.p T ?_
         refine RL.nil _ _ _ _ ?_
         refine hK38 _ _ _ ?_
         refine SW.seq_k fun K39 hK39 => ?_
         refine SW.region _ _ _ _ ?_
         refine RL.p T ?_
         refine RL.p T ?_
         first | refine RL.lv1 T ?_ | refine RL.le T ?_
         refine RL.nil _ _ _ _ ?_
         refine hK39 _ _ _ ?_
         refine SW.cs (fun hc10 => ?_) (fun hc10 => ?_)
         ·skip
          have hT : flagsI f 5 = flagsI f 4 + 16 := by simp [flagsI, b2, hc10]
          first
           | (exfalso; first | omega | contradiction | (simp at *; done))
           | (
            refine SW.region _ _ _ _ ?_
            refine RL.p T ?_
            refine RL.p T ?_
            first | refine RL.q (QV.shlP rfl rfl rfl (by exact (rfl : _ = ((_ : Nat) : Int))) rfl (by simp only [loK]; omega) (by simp only [hiK]; omega)) ?_ | refine RL.q (QV.shift rfl rfl rfl (by omega) (.inl ⟨rfl, rfl⟩)) ?_
            have hr := flagsI_rng f 4
            refine RL.q (QV.orL T 1 4 rfl rfl rfl rfl (by rfl) (by omega) (by omega) (by simp only [hiK]; omega)) ?_
            refine RL.p T ?_
            refine RL.nil _ _ _ _ ?_
            refine hK37 _ _ _ ?_
            refine SW.region _ _ _ _ ?_
            first | refine RL.ar ?_ | refine RL.p T ?_
            refine RL.p T ?_
            refine RL.nil _ _ _ _ ?_
            exact ⟨5 - 5, (by omega), 5, (by rfl), by omega, (.consI rfl (by first | omega | rfl) (.consI rfl (by first | omega | rfl) (.nil (by repeat first | exact Mx.refl | exact Mx.mix | refine Mx.put rfl ?_ | refine Mx.upd rfl ?_ | refine Mx.updl rfl ?_ | refine Mx.fin rfl ?_ | refine Mx.inner rfl ?_ | refine Mx.none ?_)))), rfl, rfl⟩
            )
         ·skip
          have hT : flagsI f 5 = flagsI f 4 := by simp [flagsI, b2, hc10]
          first
           | (exfalso; first | omega | contradiction | (simp at *; done))
           | (
            refine SW.skip ?_
            refine hK37 _ _ _ ?_
            refine SW.region _ _ _ _ ?_
            first | refine RL.ar ?_ | refine RL.p T ?_
            refine RL.p T ?_
            refine RL.nil _ _ _ _ ?_
            exact ⟨5 - 5, (by omega), 5, (by rfl), by omega, (.consI rfl (by first | omega | rfl) (.consI rfl (by first | omega | rfl) (.nil (by repeat first | exact Mx.refl | exact Mx.mix | refine Mx.put rfl ?_ | refine Mx.upd rfl ?_ | refine Mx.updl rfl ?_ | refine Mx.fin rfl ?_ | refine Mx.inner rfl ?_ | refine Mx.none ?_)))), rfl, rfl⟩
            )
         )
      ·skip
       first
        | (exfalso; first | omega | contradiction | (simp at *; done))
        | (
         refine SW.exit ?_
         refine hK5 _ _ _ ?_
         refine SW.seq_k fun K40 hK40 => ?_
         refine SW.region _ _ _ _ ?_
         refine RL.p T ?_
         refine RL.bs T rfl rfl rfl (by exact (rfl : _ = some [_])) (fun b30_13 => ?_)
         refine RL.p T ?_
         refine RL.lv1 T ?_
         first | refine RL.q (QV.shrP rfl rfl rfl (by exact (rfl : _ = ((_ : Nat) : Int))) (by omega) rfl) ?_ | refine RL.q (QV.shift rfl rfl rfl (by omega) (.inr ⟨rfl, rfl⟩)) ?_
         first | refine RL.cv T ?_ | refine RL.p T ?_ | refine RL.ts T ?_
         refine RL.p T ?_
         refine RL.lv1 T ?_
         refine RL.q (QV.wrapU T rfl rfl rfl rfl (wrap16_mod _)) ?_
         refine RL.bs T rfl rfl rfl (by exact (rfl : _ = some [_, _])) (fun b38_14 => ?_)
         refine RL.c fun27 (fun hs => (SC.swap (put16 _ 1 1 [flagsF f] rfl (by omega) _ 2 2 [f.id / 2 ^ 16, f.id % 65536] (Rd.rowh (sat2 hs) (At.head _ _)) rfl (by omega) (two_ok (by omega) (by omega))))) ?_
         rintro _ _ ⟨ap, cp, rfl, e⟩; obtain rfl := e.symm
         refine RL.p T ?_
         refine RL.nil _ _ _ _ ?_
         refine hK40 _ _ _ ?_
         refine SW.seq_k fun K41 hK41 => ?_
         refine SW.draw [(40, 0), (41, 1), (42, 2), (43, 3), (44, 4), (45, 5), (46, 6), (47, 7), (48, 8), (49, 9), (2, 10), (3, 11)] [[], [], [1], [2, 1], [3, 2, 1], [4, 3, 2, 1], [0, 5, 4, 3, 2, 1], [], [7], [6, 0, 5, 4, 3, 2, 1, 8, 7], [9, 6, 0, 5, 4, 3, 2, 1, 8, 7], [10, 9, 6, 0, 5, 4, 3, 2, 1, 8, 7]] mixed (by kernel_rfl) (by kernel_rfl) ?_
         refine RD.p T ?_
         refine RD.p T ?_
         refine RD.q rfl rfl (Gd.none rfl) (QV.v1 T) ?_
         refine RD.p T ?_
         refine RD.q rfl rfl (Gd.none rfl) (QV.wrapU T rfl rfl rfl rfl (wrap8_mod _)) ?_
         refine RD.p T ?_
         refine RD.q rfl rfl (Gd.none rfl) (QV.v1 T) ?_
         refine RD.nv rfl rfl rfl (Gd.none rfl) ?_
         refine NV.build1 T rfl (by conv => lhs; whnf) rfl rfl (by conv => lhs; whnf) (by exact (rfl : _ = some [_])) ?_
         intro b45_15
         refine ⟨(Stab.cons rfl (Gd.none rfl) (QV.v1 T) (Stab.cons rfl (Gd.none rfl) (pev_sound T rfl) (Stab.cons rfl (Gd.none rfl) (pev_sound T rfl) Stab.nil))), ?_⟩
         refine RD.nv rfl rfl rfl (Gd.none rfl) ?_
         first
           | refine NV.apI1 (ki := .u8) T ?_
           | refine NV.apI (ki := .u8) T ?_ (hR := fun hs => hR.cons.cons.cons.cons)
         intro a1_ c1_
         refine ⟨(Stab.cons rfl (Gd.none rfl) (QV.v1 T) (Stab.cons rfl (Gd.none rfl) (pev_sound T rfl) Stab.nil)), ?_⟩
         refine RD.nv rfl rfl rfl (Gd.none rfl) ?_
         first
           | refine NV.apI1 (ki := .u8) T ?_
           | refine NV.apI (ki := .u8) T ?_ (hR := fun hs => hR.cons.cons.cons.cons)
         intro a1_ c1_
         refine ⟨Stab.nil, ?_⟩
         refine RD.p T ?_
         refine RD.p T ?_
         refine RD.k rfl rfl ?_
         refine hK41 _ _ _ ?_
         refine SW.ret ?_
         refine retQ.rr ((.row a1_ (1 + 2 * 2 + 1 + n) c1_ 5 1 ((([flagsF f] ++ [f.id / 2 ^ 16, f.id % 65536].flatMap two) ++ [(n : Int) % 256] ++ f.data).map (.int .u8)) :: H)) ?_
         clear hK41 K41 hK40 K40 hK36 K36 hK35 K35 hK6 K6 hK5 K5 hK4 K4 hK2 K2 hK1 K1 hK0 K0
         exact ⟨a1_, c1_, by rw [hol, show 6 + f.data.length = 1 + 2 * 2 + 1 + n by omega]; rfl, by rw [old_row hf hn, hol, show 1 + 2 * 2 + 1 + n = 6 + f.data.length by omega]⟩
         )
     ·skip
      refine SW.seq_k fun K42 hK42 => ?_
      refine SW.region _ _ _ _ ?_
      refine RL.p T ?_
      refine RL.nil _ _ _ _ ?_
      refine hK42 _ _ _ ?_
      refine SW.seq_k fun K43 hK43 => ?_
      refine SW.cs (fun hc11 => ?_) (fun hc11 => ?_)
      ·skip
       first
        | (exfalso; first | omega | contradiction | (simp at *; done))
        | (
         refine SW.skip ?_
         refine hK43 _ _ _ ?_
         refine SW.seq_k fun K44 hK44 => ?_
         refine SW.block ?_
         refine SW.seq_k fun K45 hK45 => ?_
         refine SW.region _ _ _ _ ?_
         refine RL.p T ?_
         refine RL.p T ?_
         refine RL.p T ?_
         refine RL.p T ?_
         refine RL.nil _ _ _ _ ?_
         refine hK45 _ _ _ ?_
         refine SW.seq_k fun K46 hK46 => ?_
         refine SW.region _ _ _ _ ?_
         refine RL.p T ?_
         refine RL.p T ?_
         first | refine RL.lv1 T ?_ | refine RL.le T ?_
         refine RL.nil _ _ _ _ ?_
         refine hK46 _ _ _ ?_
         refine SW.cs (fun hc12 => ?_) (fun hc12 => ?_)
         ·skip
          first
           | (exfalso; first | omega | contradiction | (simp at *; done))
           | (
            refine SW.region _ _ _ _ ?_
            refine RL.p T ?_
            refine RL.p T ?_
            first | refine RL.q (QV.shlP rfl rfl rfl (by exact (rfl : _ = ((_ : Nat) : Int))) rfl (by simp only [loK]; omega) (by simp only [hiK]; omega)) ?_ | refine RL.q (QV.shift rfl rfl rfl (by omega) (.inl ⟨rfl, rfl⟩)) ?_
            refine RL.p T ?_
            refine RL.p T ?_
            refine RL.nil _ _ _ _ ?_
            refine hK44 _ _ _ ?_
            refine SW.region _ _ _ _ ?_
            first | refine RL.ar ?_ | refine RL.p T ?_
            refine RL.p T ?_
            refine RL.nil _ _ _ _ ?_
            exact ⟨None, (by omega), (), (by rfl), trivial, (.consI rfl (by first | omega | rfl) (.consI rfl (by first | omega | rfl) (.nil (by repeat first | exact Mx.refl | exact Mx.mix | refine Mx.put rfl ?_ | refine Mx.upd rfl ?_ | refine Mx.updl rfl ?_ | refine Mx.fin rfl ?_ | refine Mx.inner rfl ?_ | refine Mx.none ?_)))), rfl, rfl⟩
            )
         ·skip
          first
           | (exfalso; first | omega | contradiction | (simp at *; done))
           | (
            refine SW.skip ?_
            refine hK44 _ _ _ ?_
            refine SW.region _ _ _ _ ?_
            first | refine RL.ar ?_ | refine RL.p T ?_
            refine RL.p T ?_
            refine RL.nil _ _ _ _ ?_
            exact ⟨None, (by omega), (), (by rfl), trivial, (.consI rfl (by first | omega | rfl) (.consI rfl (by first | omega | rfl) (.nil (by repeat first | exact Mx.refl | exact Mx.mix | refine Mx.put rfl ?_ | refine Mx.upd rfl ?_ | refine Mx.updl rfl ?_ | refine Mx.fin rfl ?_ | refine Mx.inner rfl ?_ | refine Mx.none ?_)))), rfl, rfl⟩
            )
         )
      ·skip
       first
        | (exfalso; first | omega | contradiction | (simp at *; done))
        | (
         refine SW.exit ?_
         refine hK5 _ _ _ ?_
         refine SW.seq_k fun K47 hK47 => ?_
         refine SW.region _ _ _ _ ?_
         refine RL.p T ?_
         refine RL.bs T rfl rfl rfl (by exact (rfl : _ = some [_])) (fun b30_16 => ?_)
         refine RL.p T ?_
         refine RL.lv1 T ?_
         first | refine RL.q (QV.shrP rfl rfl rfl (by exact (rfl : _ = ((_ : Nat) : Int))) (by omega) rfl) ?_ | refine RL.q (QV.shift rfl rfl rfl (by omega) (.inr ⟨rfl, rfl⟩)) ?_
         first | refine RL.cv T ?_ | refine RL.p T ?_ | refine RL.ts T ?_
         refine RL.p T ?_
         refine RL.lv1 T ?_
         refine RL.q (QV.wrapU T rfl rfl rfl rfl (wrap16_mod _)) ?_
         refine RL.bs T rfl rfl rfl (by exact (rfl : _ = some [_, _])) (fun b38_17 => ?_)
         refine RL.c fun27 (fun hs => (SC.swap (put16 _ 1 1 [flagsF f] rfl (by omega) _ 2 2 [f.id / 2 ^ 16, f.id % 65536] (Rd.rowh (sat2 hs) (At.head _ _)) rfl (by omega) (two_ok (by omega) (by omega))))) ?_
         rintro _ _ ⟨ap, cp, rfl, e⟩; obtain rfl := e.symm
         refine RL.p T ?_
         refine RL.nil _ _ _ _ ?_
         refine hK47 _ _ _ ?_
         refine SW.seq_k fun K48 hK48 => ?_
         refine SW.draw [(40, 0), (41, 1), (42, 2), (43, 3), (44, 4), (45, 5), (46, 6), (47, 7), (48, 8), (49, 9), (2, 10), (3, 11)] [[], [], [1], [2, 1], [3, 2, 1], [4, 3, 2, 1], [0, 5, 4, 3, 2, 1], [], [7], [6, 0, 5, 4, 3, 2, 1, 8, 7], [9, 6, 0, 5, 4, 3, 2, 1, 8, 7], [10, 9, 6, 0, 5, 4, 3, 2, 1, 8, 7]] mixed (by kernel_rfl) (by kernel_rfl) ?_
         refine RD.p T ?_
         refine RD.p T ?_
         refine RD.q rfl rfl (Gd.none rfl) (QV.v1 T) ?_
         refine RD.p T ?_
         refine RD.q rfl rfl (Gd.none rfl) (QV.wrapU T rfl rfl rfl rfl (wrap8_mod _)) ?_
         refine RD.p T ?_
         refine RD.q rfl rfl (Gd.none rfl) (QV.v1 T) ?_
         refine RD.nv rfl rfl rfl (Gd.none rfl) ?_
         refine NV.build1 T rfl (by conv => lhs; whnf) rfl rfl (by conv => lhs; whnf) (by exact (rfl : _ = some [_])) ?_
         intro b45_18
         refine ⟨(Stab.cons rfl (Gd.none rfl) (QV.v1 T) (Stab.cons rfl (Gd.none rfl) (pev_sound T rfl) (Stab.cons rfl (Gd.none rfl) (pev_sound T rfl) Stab.nil))), ?_⟩
         refine RD.nv rfl rfl rfl (Gd.none rfl) ?_
         first
           | refine NV.apI1 (ki := .u8) T ?_
           | refine NV.apI (ki := .u8) T ?_ (hR := fun hs => hR.cons.cons.cons.cons)
         intro a1_ c1_
         refine ⟨(Stab.cons rfl (Gd.none rfl) (QV.v1 T) (Stab.cons rfl (Gd.none rfl) (pev_sound T rfl) Stab.nil)), ?_⟩
         refine RD.nv rfl rfl rfl (Gd.none rfl) ?_
         first
           | refine NV.apI1 (ki := .u8) T ?_
           | refine NV.apI (ki := .u8) T ?_ (hR := fun hs => hR.cons.cons.cons.cons)
         intro a1_ c1_
         refine ⟨Stab.nil, ?_⟩
         refine RD.p T ?_
         refine RD.p T ?_
         refine RD.k rfl rfl ?_
         refine hK48 _ _ _ ?_
         refine SW.ret ?_
         refine retQ.rr ((.row a1_ (1 + 2 * 2 + 1 + n) c1_ 5 1 ((([flagsF f] ++ [f.id / 2 ^ 16, f.id % 65536].flatMap two) ++ [(n : Int) % 256] ++ f.data).map (.int .u8)) :: H)) ?_
         clear hK48 K48 hK47 K47 hK43 K43 hK42 K42 hK6 K6 hK5 K5 hK4 K4 hK2 K2 hK1 K1 hK0 K0
         exact ⟨a1_, c1_, by rw [hol, show 6 + f.data.length = 1 + 2 * 2 + 1 + n by omega]; rfl, by rw [old_row hf hn, hol, show 1 + 2 * 2 + 1 + n = 6 + f.data.length by omega]⟩
         )
    )
theorem putold_bad {w0 : World} {H : List Chunk} (f : Frm) (sa : Option Addr) (n c : Nat) (hR : Rd w0 H sa n c 1 (f.data.map (.int .u8))) (hn : n = f.data.length) (hm : n ≤ 140737488351232) (hf : FrOk f) (hb : f.kind = 3 ∨ chkF f ≠ 0) : SC Try.prog w0 9 #[FA f sa n c] H (fun v H' => v = .tuple #[.slice none 0 0, .int .i64 2] ∧ H' = H) := by
 refine SC.enter Try.func9 rfl (Nat.le_of_ble_eq_true rfl) ?_
 refine SW.seq_k fun K0 hK0 => ?_
 refine SW.region _ _ _ _ ?_
 refine RL.s ?_
 refine NV.box rfl (by exact (rfl : _ = [_, _, _, _, _, _, _, _, _, _, _])) ?_
 intro b1_0
 refine RL.p T ?_
 refine RL.p T ?_
 refine RL.nil _ _ _ _ ?_
 refine hK0 _ _ _ ?_
 refine SW.seq_k fun K1 hK1 => ?_
 refine SW.seq_k fun K2 hK2 => ?_
 refine SW.region _ _ _ _ ?_
 refine RL.p T ?_
 refine RL.lv1 T ?_
 refine RL.p T ?_
 refine RL.p T ?_
 refine RL.join (fr1 := ?_) 3 11 false [12, 13, 14] (fun hs0 hj => ?_) ?_ ?_
 rotate_left
 ·have hs0j := hs0
  try simp only [decide_eq_true_eq, Bool.not_eq_true', decide_eq_false_iff_not, Bool.not_eq_false', Int.not_lt, Int.not_le, Int.toNat_natCast, Bool.and_eq_true, Bool.or_eq_true, Bool.and_eq_false_iff, Bool.or_eq_false_iff] at hs0
  refine RL.q (QV.vN T rfl rfl rfl rfl rfl (by exact (rfl : _ = [_, _, _, _, _, _, _, _, _, _, _]))) ?_
  refine RL.c fun25 (fun hs => fcheck f sa n c hR.cons hn hm hf) ?_
  rintro _ _ ⟨rfl, e⟩; obtain rfl := e.symm
  refine RL.p T ?_
  exact hj
 ·repeat first | exact Mx.refl | exact Mx.mix | refine Mx.put rfl ?_ | refine Mx.upd rfl ?_ | refine Mx.updl rfl ?_ | refine Mx.fin rfl ?_ | refine Mx.inner rfl ?_ | refine Mx.none ?_
 refine RL.or ?_
 refine RL.nil _ _ _ _ ?_
 refine hK2 _ _ _ ?_
 refine SW.cs (fun hc0 => ?_) (fun hc0 => ?_)
 ·skip
  first
   | (exfalso; first | omega | contradiction | (simp at *; done))
   | (
    refine SW.seq_k fun K3 hK3 => ?_
    refine SW.region _ _ _ _ ?_
    refine RL.p T ?_
    refine RL.p T ?_
    refine RL.nil _ _ _ _ ?_
    refine hK3 _ _ _ ?_
    refine SW.ret ?_
    refine retQ.rr (H) ?_
    clear hK3 K3 hK2 K2 hK1 K1 hK0 K0
    exact ⟨rfl, rfl⟩
    )
 ·skip
  exfalso; first | omega | contradiction | (simp at *; done)
theorem putold {w0 : World} {H : List Chunk} (f : Frm) (sa : Option Addr) (n c : Nat) (hR : Rd w0 H sa n c 1 (f.data.map (.int .u8))) (hn : n = f.data.length) (hm : n ≤ 140737488351232) (hf : FrOk f) : SC Try.prog w0 9 #[FA f sa n c] H (fun v H' => ∃ a c, v = .tuple #[.slice a (putO f).1.length c, .int .i64 (putO f).2] ∧ H' = .row a (putO f).1.length c 5 1 ((putO f).1.map (.int .u8)) :: H) := by
  by_cases h : f.kind = 3 ∨ chkF f ≠ 0
  · rw [putO_bad h]
    refine SC.nilrow 5 1 (SC.mono (putold_bad f sa n c hR.cons hn hm hf h) ?_)
    rintro _ _ ⟨rfl, rfl⟩; exact ⟨none, 0, rfl, rfl⟩
  · rw [putO_ok (by omega) (by omega)]
    exact putold_ok f sa n c hR hn hm hf (by omega) (by omega)
theorem rbit {w0 : World} {H : List Chunk} (b : Bool) (z : Int) : SC Try.prog w0 29 #[.bool b, .int .u8 z] H (fun v H' => v = .int .u8 (b2 b z) ∧ H' = H) := by
 refine SC.enter Try.func29 rfl (Nat.le_of_ble_eq_true rfl) ?_
 refine SW.seq_k fun K0 hK0 => ?_
 refine SW.region _ _ _ _ ?_
 refine RL.p T ?_
 refine RL.nil _ _ _ _ ?_
 refine hK0 _ _ _ ?_
 refine SW.seq_k fun K1 hK1 => ?_
 refine SW.seq_k fun K2 hK2 => ?_
 refine SW.region _ _ _ _ ?_
 refine RL.p T ?_
 refine RL.nil _ _ _ _ ?_
 refine hK2 _ _ _ ?_
 refine SW.cs (fun hc0 => ?_) (fun hc0 => ?_)
 ·skip
  refine SW.seq_k fun K3 hK3 => ?_
  refine SW.region _ _ _ _ ?_
  refine RL.p T ?_
  refine RL.p T ?_
  refine RL.nil _ _ _ _ ?_
  refine hK3 _ _ _ ?_
  refine SW.ret ?_
  refine retQ.rr (H) ?_
  clear hK3 K3 hK2 K2 hK1 K1 hK0 K0
  first
    | exact ⟨by rw [b2, if_pos (by assumption)]; rfl, rfl⟩
    | exact ⟨by rw [b2, if_neg (by simp [*])]; rfl, rfl⟩
 ·skip
  refine SW.skip ?_
  refine hK1 _ _ _ ?_
  refine SW.seq_k fun K4 hK4 => ?_
  refine SW.region _ _ _ _ ?_
  refine RL.p T ?_
  refine RL.nil _ _ _ _ ?_
  refine hK4 _ _ _ ?_
  refine SW.ret ?_
  refine retQ.rr (H) ?_
  clear hK4 K4 hK2 K2 hK1 K1 hK0 K0
  first
    | exact ⟨by rw [b2, if_pos (by assumption)]; rfl, rfl⟩
    | exact ⟨by rw [b2, if_neg (by simp [*])]; rfl, rfl⟩
theorem rputold_bad {w0 : World} {H : List Chunk} (f : Frm) (sa : Option Addr) (n c : Nat) (hR : Rd w0 H sa n c 1 (f.data.map (.int .u8))) (hn : n = f.data.length) (hm : n ≤ 140737488351232) (hf : FrOk f) (hb : f.kind = 3 ∨ chkF f ≠ 0) : SC Try.prog w0 10 #[FA f sa n c] H (fun v H' => v = .tuple #[.slice none 0 0, .int .i64 2] ∧ H' = H) := by
 refine SC.enter Try.func10 rfl (Nat.le_of_ble_eq_true rfl) ?_
 refine SW.seq_k fun K0 hK0 => ?_
 refine SW.region _ _ _ _ ?_
 refine RL.s ?_
 refine NV.box rfl (by exact (rfl : _ = [_, _, _, _, _, _, _, _, _, _, _])) ?_
 intro b1_0
 refine RL.p T ?_
 refine RL.p T ?_
 refine RL.nil _ _ _ _ ?_
 refine hK0 _ _ _ ?_
 refine SW.seq_k fun K1 hK1 => ?_
 refine SW.seq_k fun K2 hK2 => ?_
 refine SW.region _ _ _ _ ?_
 refine RL.p T ?_
 refine RL.lv1 T ?_
 refine RL.p T ?_
 refine RL.p T ?_
 refine RL.join (fr1 := ?_) 3 8 false [9, 10, 11] (fun hs0 hj => ?_) ?_ ?_
 rotate_left
 ·have hs0j := hs0
  try simp only [decide_eq_true_eq, Bool.not_eq_true', decide_eq_false_iff_not, Bool.not_eq_false', Int.not_lt, Int.not_le, Int.toNat_natCast, Bool.and_eq_true, Bool.or_eq_true, Bool.and_eq_false_iff, Bool.or_eq_false_iff] at hs0
  refine RL.q (QV.vN T rfl rfl rfl rfl rfl (by exact (rfl : _ = [_, _, _, _, _, _, _, _, _, _, _]))) ?_
  refine RL.c fun28 (fun hs => rfcheck f sa n c hR.cons hn hm hf) ?_
  rintro _ _ ⟨rfl, e⟩; obtain rfl := e.symm
  refine RL.p T ?_
  exact hj
 ·repeat first | exact Mx.refl | exact Mx.mix | refine Mx.put rfl ?_ | refine Mx.upd rfl ?_ | refine Mx.updl rfl ?_ | refine Mx.fin rfl ?_ | refine Mx.inner rfl ?_ | refine Mx.none ?_
 refine RL.or ?_
 refine RL.nil _ _ _ _ ?_
 refine hK2 _ _ _ ?_
 refine SW.cs (fun hc0 => ?_) (fun hc0 => ?_)
 ·skip
  first
   | (exfalso; first | omega | contradiction | (simp at *; done))
   | (
    refine SW.seq_k fun K3 hK3 => ?_
    refine SW.region _ _ _ _ ?_
    refine RL.p T ?_
    refine RL.p T ?_
    refine RL.nil _ _ _ _ ?_
    refine hK3 _ _ _ ?_
    refine SW.ret ?_
    refine retQ.rr (H) ?_
    clear hK3 K3 hK2 K2 hK1 K1 hK0 K0
    exact ⟨rfl, rfl⟩
    )
 ·skip
  exfalso; first | omega | contradiction | (simp at *; done)
theorem rputold_ok {w0 : World} {H : List Chunk} (f : Frm) (sa : Option Addr) (n c : Nat) (hR : Rd w0 H sa n c 1 (f.data.map (.int .u8))) (hn : n = f.data.length) (hm : n ≤ 140737488351232) (hf : FrOk f) (hk3 : f.kind ≠ 3) (hc : chkF f = 0) : SC Try.prog w0 10 #[FA f sa n c] H (fun v H' => ∃ a c, v = .tuple #[.slice a (oldB f).length c, .int .i64 0] ∧ H' = .row a (oldB f).length c 5 1 ((oldB f).map (.int .u8)) :: H) := by
 refine SC.enter Try.func10 rfl (Nat.le_of_ble_eq_true rfl) ?_
 refine SW.seq_k fun K0 hK0 => ?_
 have hfk := hf.kind
 have hfi := hf.id
 have hfl := old_max (f := f) hk3 hc
 have hol := oldB_len f
 have hb0 := b2_rng (decide (f.kind = 2)) (n := 1) (by omega)
 have hb1 := b2_rng (f.ext) (n := 2) (by omega)
 have hb2 := b2_rng (f.rtr) (n := 4) (by omega)
 have hb3 := b2_rng (f.brs) (n := 8) (by omega)
 have hb4 := b2_rng (f.esi) (n := 16) (by omega)
 refine SW.region _ _ _ _ ?_
 refine RL.s ?_
 refine NV.box rfl (by exact (rfl : _ = [_, _, _, _, _, _, _, _, _, _, _])) ?_
 intro b1_0
 refine RL.p T ?_
 refine RL.p T ?_
 refine RL.nil _ _ _ _ ?_
 refine hK0 _ _ _ ?_
 refine SW.seq_k fun K1 hK1 => ?_
 refine SW.seq_k fun K2 hK2 => ?_
 refine SW.region _ _ _ _ ?_
 refine RL.p T ?_
 refine RL.lv1 T ?_
 refine RL.p T ?_
 refine RL.p T ?_
 refine RL.join (fr1 := ?_) 3 8 false [9, 10, 11] (fun hs0 hj => ?_) ?_ ?_
 rotate_left
 ·have hs0j := hs0
  try simp only [decide_eq_true_eq, Bool.not_eq_true', decide_eq_false_iff_not, Bool.not_eq_false', Int.not_lt, Int.not_le, Int.toNat_natCast, Bool.and_eq_true, Bool.or_eq_true, Bool.and_eq_false_iff, Bool.or_eq_false_iff] at hs0
  refine RL.q (QV.vN T rfl rfl rfl rfl rfl (by exact (rfl : _ = [_, _, _, _, _, _, _, _, _, _, _]))) ?_
  refine RL.c fun28 (fun hs => rfcheck f sa n c hR.cons hn hm hf) ?_
  rintro _ _ ⟨rfl, e⟩; obtain rfl := e.symm
  refine RL.p T ?_
  exact hj
 ·repeat first | exact Mx.refl | exact Mx.mix | refine Mx.put rfl ?_ | refine Mx.upd rfl ?_ | refine Mx.updl rfl ?_ | refine Mx.fin rfl ?_ | refine Mx.inner rfl ?_ | refine Mx.none ?_
 refine RL.or ?_
 refine RL.nil _ _ _ _ ?_
 refine hK2 _ _ _ ?_
 refine SW.cs (fun hc0 => ?_) (fun hc0 => ?_)
 ·skip
  first
   | (exfalso; first | omega | contradiction | (simp at *; done))
   | (
    refine SW.seq_k fun K3 hK3 => ?_
    refine SW.region _ _ _ _ ?_
    refine RL.p T ?_
    refine RL.p T ?_
    refine RL.nil _ _ _ _ ?_
    refine hK3 _ _ _ ?_
    refine SW.ret ?_
    refine retQ.rr ((.row a1_ (1 + 5 + n) c1_ 5 1 (([flagsF f] ++ [f.id / 2 ^ 24, f.id / 2 ^ 16 % 256, f.id / 2 ^ 8 % 256, f.id % 256, (n : Int) % 256] ++ f.data).map (.int .u8)) :: H)) ?_
    clear hK3 K3 hK2 K2 hK1 K1 hK0 K0
    exact ⟨a1_, c1_, by rw [hol, show 6 + f.data.length = 1 + 5 + n by omega]; rfl, by rw [show 1 + 5 + n = (oldB f).length by omega, show [flagsF f] ++ [f.id / 2 ^ 24, f.id / 2 ^ 16 % 256, f.id / 2 ^ 8 % 256, f.id % 256, (n : Int) % 256] ++ f.data = oldB f by rw [hn]; rfl]⟩
    )
 ·skip
  first
   | (exfalso; first | omega | contradiction | (simp at *; done))
   | (
    refine SW.skip ?_
    refine hK1 _ _ _ ?_
    refine SW.seq_k fun K4 hK4 => ?_
    refine SW.draw [(13, 0), (14, 1), (15, 2), (16, 3), (17, 4), (18, 5), (19, 6), (20, 7), (21, 8), (22, 9), (23, 10), (24, 11), (25, 12), (26, 13), (27, 14), (28, 15), (29, 16), (30, 17), (31, 18), (32, 19), (33, 20), (4, 21)] [[], [0], [1, 0], [2, 1, 0], [], [4], [5, 4, 3, 2, 1, 0], [3, 2, 1, 0, 6, 5, 4], [], [8], [9, 8, 6, 5, 4, 3, 2, 1, 0], [7, 3, 2, 1, 0, 6, 5, 4, 10, 9, 8], [], [12], [13, 12, 10, 9, 8, 6, 5, 4, 3, 2, 1, 0], [11, 7, 3, 2, 1, 0, 6, 5, 4, 10, 9, 8, 14, 13, 12], [], [16], [17, 16, 14, 13, 12, 10, 9, 8, 6, 5, 4, 3, 2, 1, 0], [15, 11, 7, 3, 2, 1, 0, 6, 5, 4, 10, 9, 8, 14, 13, 12, 18, 17, 16], [19, 15, 11, 7, 3, 2, 1, 0, 6, 5, 4, 10, 9, 8, 14, 13, 12, 18, 17, 16], [20, 19, 15, 11, 7, 3, 2, 1, 0, 6, 5, 4, 10, 9, 8, 14, 13, 12, 18, 17, 16]] mixed (by kernel_rfl) (by kernel_rfl) ?_
    refine RD.p T ?_
    refine RD.q rfl rfl (Gd.none rfl) (QV.v1 T) ?_
    refine RD.p T ?_
    refine RD.p T ?_
    refine RD.q rfl rfl (Gd.none rfl) (QV.v1 T) ?_
    refine RD.p T ?_
    refine RD.q rfl rfl (Gd.none rfl) (QV.v1 T) ?_
    refine RD.p T ?_
    refine RD.q rfl rfl (Gd.none rfl) (QV.v1 T) ?_
    refine RD.p T ?_
    refine RD.q rfl rfl (Gd.none rfl) (QV.v1 T) ?_
    refine RD.nv rfl rfl rfl (Gd.none rfl) ?_
    refine NV.call rfl rfl rfl fun29 rfl rfl (rbit (decide (f.kind = 2)) 1) ?_
    rintro _ _ ⟨rfl, e⟩; obtain rfl := e.symm
    refine ⟨(Stab.cons rfl (Gd.none rfl) (QV.v1 T) (Stab.cons rfl (Gd.none rfl) (pev_sound T rfl) (Stab.cons rfl (Gd.none rfl) (QV.v1 T) (Stab.cons rfl (Gd.none rfl) (pev_sound T rfl) (Stab.cons rfl (Gd.none rfl) (QV.v1 T) (Stab.cons rfl (Gd.none rfl) (pev_sound T rfl) (Stab.cons rfl (Gd.none rfl) (QV.v1 T) (Stab.cons rfl (Gd.none rfl) (pev_sound T rfl) Stab.nil)))))))), ?_⟩
    refine RD.nv rfl rfl rfl (Gd.none rfl) ?_
    refine NV.call rfl rfl rfl fun29 rfl rfl (rbit (f.ext) 2) ?_
    rintro _ _ ⟨rfl, e⟩; obtain rfl := e.symm
    refine ⟨(Stab.cons rfl (Gd.none rfl) (QV.v1 T) (Stab.cons rfl (Gd.none rfl) (pev_sound T rfl) (Stab.cons rfl (Gd.none rfl) (QV.v1 T) (Stab.cons rfl (Gd.none rfl) (pev_sound T rfl) (Stab.cons rfl (Gd.none rfl) (QV.v1 T) (Stab.cons rfl (Gd.none rfl) (pev_sound T rfl) Stab.nil)))))), ?_⟩
    refine RD.q rfl rfl (Gd.none rfl) (by first | exact QV.arith rfl rfl rfl rfl (by omega) (by omega) | exact QV.arith_u8 rfl rfl rfl rfl (by omega) (by omega) | exact QV.arith_u16 rfl rfl rfl rfl (by omega) (by omega) | exact QV.arith_u32 rfl rfl rfl rfl (by omega) (by omega) | exact QV.arith_u64 rfl rfl rfl rfl (by omega) (by omega) | exact pev_sound T rfl) ?_
    refine RD.nv rfl rfl rfl (Gd.none rfl) ?_
    refine NV.call rfl rfl rfl fun29 rfl rfl (rbit (f.rtr) 4) ?_
    rintro _ _ ⟨rfl, e⟩; obtain rfl := e.symm
    refine ⟨(Stab.cons rfl (Gd.none rfl) (by first | exact pev_sound T rfl | exact QV.arith rfl rfl rfl rfl (by omega) (by omega) | exact QV.arith_u8 rfl rfl rfl rfl (by omega) (by omega) | exact QV.arith_u16 rfl rfl rfl rfl (by omega) (by omega) | exact QV.arith_u32 rfl rfl rfl rfl (by omega) (by omega) | exact QV.arith_u64 rfl rfl rfl rfl (by omega) (by omega) ) (Stab.cons rfl (Gd.none rfl) (QV.v1 T) (Stab.cons rfl (Gd.none rfl) (pev_sound T rfl) (Stab.cons rfl (Gd.none rfl) (QV.v1 T) (Stab.cons rfl (Gd.none rfl) (pev_sound T rfl) Stab.nil))))), ?_⟩
    refine RD.q rfl rfl (Gd.none rfl) (by first | exact QV.arith rfl rfl rfl rfl (by omega) (by omega) | exact QV.arith_u8 rfl rfl rfl rfl (by omega) (by omega) | exact QV.arith_u16 rfl rfl rfl rfl (by omega) (by omega) | exact QV.arith_u32 rfl rfl rfl rfl (by omega) (by omega) | exact QV.arith_u64 rfl rfl rfl rfl (by omega) (by omega) | exact pev_sound T rfl) ?_
    refine RD.nv rfl rfl rfl (Gd.none rfl) ?_
    refine NV.call rfl rfl rfl fun29 rfl rfl (rbit (f.brs) 8) ?_
    rintro _ _ ⟨rfl, e⟩; obtain rfl := e.symm
    refine ⟨(Stab.cons rfl (Gd.none rfl) (by first | exact pev_sound T rfl | exact QV.arith rfl rfl rfl rfl (by omega) (by omega) | exact QV.arith_u8 rfl rfl rfl rfl (by omega) (by omega) | exact QV.arith_u16 rfl rfl rfl rfl (by omega) (by omega) | exact QV.arith_u32 rfl rfl rfl rfl (by omega) (by omega) | exact QV.arith_u64 rfl rfl rfl rfl (by omega) (by omega) ) (Stab.cons rfl (Gd.none rfl) (by first | exact pev_sound T rfl | exact QV.arith rfl rfl rfl rfl (by omega) (by omega) | exact QV.arith_u8 rfl rfl rfl rfl (by omega) (by omega) | exact QV.arith_u16 rfl rfl rfl rfl (by omega) (by omega) | exact QV.arith_u32 rfl rfl rfl rfl (by omega) (by omega) | exact QV.arith_u64 rfl rfl rfl rfl (by omega) (by omega) ) (Stab.cons rfl (Gd.none rfl) (QV.v1 T) (Stab.cons rfl (Gd.none rfl) (pev_sound T rfl) Stab.nil)))), ?_⟩
    refine RD.q rfl rfl (Gd.none rfl) (by first | exact QV.arith rfl rfl rfl rfl (by omega) (by omega) | exact QV.arith_u8 rfl rfl rfl rfl (by omega) (by omega) | exact QV.arith_u16 rfl rfl rfl rfl (by omega) (by omega) | exact QV.arith_u32 rfl rfl rfl rfl (by omega) (by omega) | exact QV.arith_u64 rfl rfl rfl rfl (by omega) (by omega) | exact pev_sound T rfl) ?_
    refine RD.nv rfl rfl rfl (Gd.none rfl) ?_
    refine NV.call rfl rfl rfl fun29 rfl rfl (rbit (f.esi) 16) ?_
    rintro _ _ ⟨rfl, e⟩; obtain rfl := e.symm
    refine ⟨(Stab.cons rfl (Gd.none rfl) (by first | exact pev_sound T rfl | exact QV.arith rfl rfl rfl rfl (by omega) (by omega) | exact QV.arith_u8 rfl rfl rfl rfl (by omega) (by omega) | exact QV.arith_u16 rfl rfl rfl rfl (by omega) (by omega) | exact QV.arith_u32 rfl rfl rfl rfl (by omega) (by omega) | exact QV.arith_u64 rfl rfl rfl rfl (by omega) (by omega) ) (Stab.cons rfl (Gd.none rfl) (by first | exact pev_sound T rfl | exact QV.arith rfl rfl rfl rfl (by omega) (by omega) | exact QV.arith_u8 rfl rfl rfl rfl (by omega) (by omega) | exact QV.arith_u16 rfl rfl rfl rfl (by omega) (by omega) | exact QV.arith_u32 rfl rfl rfl rfl (by omega) (by omega) | exact QV.arith_u64 rfl rfl rfl rfl (by omega) (by omega) ) (Stab.cons rfl (Gd.none rfl) (by first | exact pev_sound T rfl | exact QV.arith rfl rfl rfl rfl (by omega) (by omega) | exact QV.arith_u8 rfl rfl rfl rfl (by omega) (by omega) | exact QV.arith_u16 rfl rfl rfl rfl (by omega) (by omega) | exact QV.arith_u32 rfl rfl rfl rfl (by omega) (by omega) | exact QV.arith_u64 rfl rfl rfl rfl (by omega) (by omega) ) Stab.nil))), ?_⟩
    refine RD.q rfl rfl (Gd.none rfl) (by first | exact QV.arith rfl rfl rfl rfl (by omega) (by omega) | exact QV.arith_u8 rfl rfl rfl rfl (by omega) (by omega) | exact QV.arith_u16 rfl rfl rfl rfl (by omega) (by omega) | exact QV.arith_u32 rfl rfl rfl rfl (by omega) (by omega) | exact QV.arith_u64 rfl rfl rfl rfl (by omega) (by omega) | exact pev_sound T rfl) ?_
    refine RD.nv rfl rfl rfl (Gd.none rfl) ?_
    refine NV.build1 T rfl (by conv => lhs; whnf) rfl rfl (by conv => lhs; whnf) (by exact (rfl : _ = some [_])) ?_
    intro b33_1
    refine ⟨Stab.nil, ?_⟩
    refine RD.p T ?_
    refine RD.k rfl rfl ?_
    refine hK4 _ _ _ ?_
    refine SW.seq_k fun K5 hK5 => ?_
    refine SW.region _ _ _ _ ?_
    refine RL.p T ?_
    refine RL.p T ?_
    refine RL.lv1 T ?_
    first | refine RL.q (QV.shrP rfl rfl rfl (by exact (rfl : _ = ((_ : Nat) : Int))) (by omega) rfl) ?_ | refine RL.q (QV.shift rfl rfl rfl (by omega) (.inr ⟨rfl, rfl⟩)) ?_
    first | refine RL.cv T ?_ | refine RL.p T ?_ | refine RL.ts T ?_
    refine RL.p T ?_
    refine RL.lv1 T ?_
    first | refine RL.q (QV.shrP rfl rfl rfl (by exact (rfl : _ = ((_ : Nat) : Int))) (by omega) rfl) ?_ | refine RL.q (QV.shift rfl rfl rfl (by omega) (.inr ⟨rfl, rfl⟩)) ?_
    refine RL.q (QV.wrapU T rfl rfl rfl rfl (wrap8_mod _)) ?_
    refine RL.p T ?_
    refine RL.lv1 T ?_
    first | refine RL.q (QV.shrP rfl rfl rfl (by exact (rfl : _ = ((_ : Nat) : Int))) (by omega) rfl) ?_ | refine RL.q (QV.shift rfl rfl rfl (by omega) (.inr ⟨rfl, rfl⟩)) ?_
    refine RL.q (QV.wrapU T rfl rfl rfl rfl (wrap8_mod _)) ?_
    refine RL.p T ?_
    refine RL.lv1 T ?_
    refine RL.q (QV.wrapU T rfl rfl rfl rfl (wrap8_mod _)) ?_
    refine RL.p T ?_
    refine RL.lv1 T ?_
    refine RL.p T ?_
    refine RL.q (QV.wrapU T rfl rfl rfl rfl (wrap8_mod _)) ?_
    refine RL.bs T rfl rfl rfl (by exact (rfl : _ = some [_, _, _, _, _])) (fun b54_2 => ?_)
    refine RL.apI1 (ki := .u8) (xs := [flagsF f]) T (fun a0_ c0_ => ?_)
    refine RL.p T ?_
    refine RL.nil _ _ _ _ ?_
    refine hK5 _ _ _ ?_
    refine SW.seq_k fun K6 hK6 => ?_
    refine SW.region _ _ _ _ ?_
    refine RL.p T ?_
    refine RL.p T ?_
    refine RL.lv1 T ?_
    refine RL.apI (ki := .u8) T (fun a1_ c1_ => ?_) (hR := fun hs => hR.cons.cons)
    refine RL.p T ?_
    refine RL.p T ?_
    refine RL.nil _ _ _ _ ?_
    refine hK6 _ _ _ ?_
    refine SW.ret ?_
    refine retQ.rr ((.row a1_ (1 + 5 + n) c1_ 5 1 (([flagsF f] ++ [f.id / 2 ^ 24, f.id / 2 ^ 16 % 256, f.id / 2 ^ 8 % 256, f.id % 256, (n : Int) % 256] ++ f.data).map (.int .u8)) :: H)) ?_
    clear hK6 K6 hK5 K5 hK4 K4 hK2 K2 hK1 K1 hK0 K0
    exact ⟨a1_, c1_, by rw [hol, show 6 + f.data.length = 1 + 5 + n by omega]; rfl, by rw [show 1 + 5 + n = (oldB f).length by omega, show [flagsF f] ++ [f.id / 2 ^ 24, f.id / 2 ^ 16 % 256, f.id / 2 ^ 8 % 256, f.id % 256, (n : Int) % 256] ++ f.data = oldB f by rw [hn]; rfl]⟩
    )
theorem rputold {w0 : World} {H : List Chunk} (f : Frm) (sa : Option Addr) (n c : Nat) (hR : Rd w0 H sa n c 1 (f.data.map (.int .u8))) (hn : n = f.data.length) (hm : n ≤ 140737488351232) (hf : FrOk f) : SC Try.prog w0 10 #[FA f sa n c] H (fun v H' => ∃ a c, v = .tuple #[.slice a (putO f).1.length c, .int .i64 (putO f).2] ∧ H' = .row a (putO f).1.length c 5 1 ((putO f).1.map (.int .u8)) :: H) := by
  by_cases h : f.kind = 3 ∨ chkF f ≠ 0
  · rw [putO_bad h]
    refine SC.nilrow 5 1 (SC.mono (rputold_bad f sa n c hR.cons hn hm hf h) ?_)
    rintro _ _ ⟨rfl, rfl⟩; exact ⟨none, 0, rfl, rfl⟩
  · rw [putO_ok (by omega) (by omega)]
    exact rputold_ok f sa n c hR hn hm hf (by omega) (by omega)
end Go.Proofs.Ytecgicpimgghaaa.M
