import Derived.Test.YthigfghfpmpiiaaProg
import Derived.Test.YthigfghfpmpiiaaP19
set_option linter.unusedVariables false
set_option linter.unusedSimpArgs false
namespace Go.Proofs.Ythigfghfpmpiiaa.M
open Go Go.Sep Go.Proofs
set_option maxRecDepth 10000
set_option maxHeartbeats 2000000
noncomputable def T : Tab Try.prog := ⟨Try.prog.info?, Try.prog.underlying, fun _ _ h => h, fun _ _ h => h⟩
theorem mixed : Try.prog.follows .mixedOrders = true := by kernel_rfl
theorem fun3 : Fun Try.prog 3 := Fun.mk Try.func3 (by kernel_rfl) (by kernel_rfl)
theorem fun4 : Fun Try.prog 4 := Fun.mk Try.func4 (by kernel_rfl) (by kernel_rfl)
theorem fun5 : Fun Try.prog 5 := Fun.mk Try.func5 (by kernel_rfl) (by kernel_rfl)
theorem fun6 : Fun Try.prog 6 := Fun.mk Try.func6 (by kernel_rfl) (by kernel_rfl)
theorem fun7 : Fun Try.prog 7 := Fun.mk Try.func7 (by kernel_rfl) (by kernel_rfl)
theorem fun8 : Fun Try.prog 8 := Fun.mk Try.func8 (by kernel_rfl) (by kernel_rfl)
theorem fun9 : Fun Try.prog 9 := Fun.mk Try.func9 (by kernel_rfl) (by kernel_rfl)
theorem fun10 : Fun Try.prog 10 := Fun.mk Try.func10 (by kernel_rfl) (by kernel_rfl)
theorem fun11 : Fun Try.prog 11 := Fun.mk Try.func11 (by kernel_rfl) (by kernel_rfl)
theorem fun12 : Fun Try.prog 12 := Fun.mk Try.func12 (by kernel_rfl) (by kernel_rfl)
theorem fun13 : Fun Try.prog 13 := Fun.mk Try.func13 (by kernel_rfl) (by kernel_rfl)
theorem fun14 : Fun Try.prog 14 := Fun.mk Try.func14 (by kernel_rfl) (by kernel_rfl)
theorem same {w0 : World} {H : List Chunk} (sa sb : Option Addr) (n c nb cb : Nat) (es fs : List Int) (hR : Rd w0 H sa n c 1 (es.map (.int .u8))) (hS : Rd w0 H sb nb cb 1 (fs.map (.int .u8))) (hn : n = es.length) (hm : nb = fs.length) (hm1 : n ≤ 140737488351232) (hm2 : nb ≤ 140737488351232) : SC Try.prog w0 9 #[.slice sa n c, .slice sb nb cb] H (fun v H' => v = .bool (decide (es = fs)) ∧ H' = H) := by
 refine SC.enter Try.func9 rfl (Nat.le_of_ble_eq_true rfl) ?_
 refine SW.seq_k fun K0 hK0 => ?_
 refine SW.region _ _ _ _ ?_
 refine RL.p T ?_
 refine RL.nil _ _ _ _ ?_
 refine hK0 _ _ _ ?_
 refine SW.seq_k fun K1 hK1 => ?_
 refine SW.seq_k fun K2 hK2 => ?_
 refine SW.region _ _ _ _ ?_
 refine RL.p T ?_
 refine RL.p T ?_
 refine RL.p T ?_
 refine RL.p T ?_
 refine RL.p T ?_
 refine RL.nil _ _ _ _ ?_
 refine hK2 _ _ _ ?_
 refine SW.cs (fun hc0 => ?_) (fun hc0 => ?_)
 ·skip
  refine SW.seq_k fun K3 hK3 => ?_
  refine SW.region _ _ _ _ ?_
  refine RL.p T ?_
  refine RL.nil _ _ _ _ ?_
  refine hK3 _ _ _ ?_
  refine SW.ret ?_
  refine retQ.rr (H) ?_
  clear hK3 K3 hK2 K2 hK1 K1 hK0 K0
  refine ⟨boolE ?_, rfl⟩; first | (rw [same_len (by omega)]; done) | (rw [same_ne (k := k) (by omega)]; done) | (rw [same_end (k := k) (by omega) (by omega) hb]; done)
 ·skip
  refine SW.skip ?_
  refine hK1 _ _ _ ?_
  refine SW.seq_k fun K4 hK4 => ?_
  refine SW.seq_k fun K5 hK5 => ?_
  refine SW.region _ _ _ _ ?_
  refine RL.p T ?_
  refine RL.p T ?_
  refine RL.p T ?_
  refine RL.nil _ _ _ _ ?_
  refine hK5 _ _ _ ?_
  refine SW.block ?_
  refine SW.loopM (fun frB mm fr ds HH => ∃ (k : Nat) , mm = n - k ∧ (k ≤ n ∧ (es.take k = fs.take k)) ∧ FrIs [4, 5, 13, 14, 15, 16, 17, 18, 19, 20, 21, 22, 23, 24, 25] frB fr [(13, .int .i64 k)] ∧ ds = [] ∧ HH = H) (n := n - 0) ?_ ?_
  ·exact ⟨0, rfl, ⟨Nat.zero_le _, rfl⟩, (.cons rfl (.nil (by repeat first | exact Mx.refl | exact Mx.mix | refine Mx.put rfl ?_ | refine Mx.upd rfl ?_ | refine Mx.updl rfl ?_ | refine Mx.fin rfl ?_ | refine Mx.inner rfl ?_ | refine Mx.none ?_))), rfl, rfl⟩
  ·rintro mm fr ds HH ⟨k, rfl, ⟨hk, hb⟩, hFr, rfl, eHH⟩
   obtain rfl := eHH.symm
   obtain ⟨frU, rfl⟩ := hFr.eq
   clear hFr
   refine SW.seq_k fun K6 hK6 => ?_
   refine SW.region _ _ _ _ ?_
   refine RL.p T ?_
   refine RL.nil _ _ _ _ ?_
   refine hK6 _ _ _ ?_
   refine SW.seq_k fun K7 hK7 => ?_
   refine SW.cs (fun hc1 => ?_) (fun hc1 => ?_)
   ·skip
    refine SW.skip ?_
    refine hK7 _ _ _ ?_
    refine SW.seq_k fun K8 hK8 => ?_
    refine SW.block ?_
    refine SW.seq_k fun K9 hK9 => ?_
    refine SW.region _ _ _ _ ?_
    refine RL.p T ?_
    refine RL.p T ?_
    refine RL.nil _ _ _ _ ?_
    refine hK9 _ _ _ ?_
    refine SW.seq_k fun K10 hK10 => ?_
    refine SW.drawQ [(16, 0), (17, 1), (18, 2), (19, 3), (20, 4), (21, 5), (22, 6), (23, 7), (24, 8)] [[], [], [0, 1], [2, 0, 1], [], [], [4, 5], [6, 4, 5], [3, 2, 0, 1, 7, 6, 4, 5]] mixed (by kernel_rfl) (by kernel_rfl) ?_
    refine QL.p T ?_
    refine QL.p T ?_
    refine QL.ix T ?_ (hR := fun hs => (by first | exact hR | exact hS))
    refine QL.le T ?_ (hR := fun hs => (by first | exact hR | exact hS))
    refine QL.p T ?_
    refine QL.p T ?_
    refine QL.ix T ?_ (hR := fun hs => (by first | exact hR | exact hS))
    refine QL.le T ?_ (hR := fun hs => (by first | exact hR | exact hS))
    refine QL.p T ?_
    refine QL.nil ?_
    refine hK10 _ _ _ ?_
    refine SW.cs (fun hc2 => ?_) (fun hc2 => ?_)
    ·skip
     refine SW.seq_k fun K11 hK11 => ?_
     refine SW.region _ _ _ _ ?_
     refine RL.p T ?_
     refine RL.nil _ _ _ _ ?_
     refine hK11 _ _ _ ?_
     refine SW.ret ?_
     refine retQ.rr (H) ?_
     clear hK11 K11 hK10 K10 hK9 K9 hK8 K8 hK7 K7 hK6 K6 hK5 K5 hK4 K4 hK2 K2 hK1 K1 hK0 K0
     refine ⟨boolE ?_, rfl⟩; first | (rw [same_len (by omega)]; done) | (rw [same_ne (k := k) (by omega)]; done) | (rw [same_end (k := k) (by omega) (by omega) hb]; done)
    ·skip
     refine SW.skip ?_
     refine hK8 _ _ _ ?_
     refine SW.region _ _ _ _ ?_
     first | refine RL.ar ?_ | refine RL.p T ?_
     refine RL.p T ?_
     refine RL.nil _ _ _ _ ?_
     exact ⟨n - (k + 1), (by omega), k + 1, (by rfl), ⟨by omega, same_step (by omega) (by omega) hb (by omega)⟩, (.cons rfl (.nil (by repeat first | exact Mx.refl | exact Mx.mix | refine Mx.put rfl ?_ | refine Mx.upd rfl ?_ | refine Mx.updl rfl ?_ | refine Mx.fin rfl ?_ | refine Mx.inner rfl ?_ | refine Mx.none ?_))), rfl, rfl⟩
   ·skip
    refine SW.exit ?_
    refine hK4 _ _ _ ?_
    refine SW.seq_k fun K12 hK12 => ?_
    refine SW.region _ _ _ _ ?_
    refine RL.p T ?_
    refine RL.nil _ _ _ _ ?_
    refine hK12 _ _ _ ?_
    refine SW.ret ?_
    refine retQ.rr (H) ?_
    clear hK12 K12 hK7 K7 hK6 K6 hK5 K5 hK4 K4 hK2 K2 hK1 K1 hK0 K0
    refine ⟨boolE ?_, rfl⟩; first | (rw [same_len (by omega)]; done) | (rw [same_ne (k := k) (by omega)]; done) | (rw [same_end (k := k) (by omega) (by omega) hb]; done)
theorem whole {w0 : World} {H : List Chunk} (L : Nat) (hL : L ≤ 140737488351232) : SC Try.prog w0 14 #[.int .i64 (L : Int)] H (fun v H' => v = .int .i64 (wholeN L : Int) ∧ H' = H) := by
 refine SC.enter Try.func14 rfl (Nat.le_of_ble_eq_true rfl) ?_
 refine SW.seq_k fun K0 hK0 => ?_
 refine SW.region _ _ _ _ ?_
 refine RL.p T ?_
 refine RL.nil _ _ _ _ ?_
 refine hK0 _ _ _ ?_
 refine SW.seq_k fun K1 hK1 => ?_
 refine SW.region _ _ _ _ ?_
 refine RL.p T ?_
 first | refine RL.ar ?_ | refine RL.p T ?_
 first | refine RL.ar ?_ | refine RL.p T ?_
 first | refine RL.ar ?_ | refine RL.p T ?_
 first | refine RL.q (QV.quoP rfl rfl rfl (by omega) (by omega) (by simp only [hiK]; omega)) ?_ | refine RL.q (QV.quo rfl rfl rfl (by omega) rfl) ?_
 first | refine RL.ar ?_ | refine RL.p T ?_
 refine RL.p T ?_
 refine RL.nil _ _ _ _ ?_
 refine hK1 _ _ _ ?_
 refine SW.ret ?_
 refine retQ.rr (H) ?_
 clear hK1 K1 hK0 K0
 refine ⟨intE ?_, rfl⟩; exact whole_eq L
theorem psize {w0 : World} {H : List Chunk} (p : Pd) (hp : PdOk w0 H p) : SC Try.prog w0 10 #[PdA p] H (fun v H' => v = .tuple #[.int .i64 (sizeP p).1, .int .i64 (sizeP p).2] ∧ H' = H) := by
 refine SC.enter Try.func10 rfl (Nat.le_of_ble_eq_true rfl) ?_
 refine SW.seq_k fun K0 hK0 => ?_
 have hl := hp.len
 have hm := hp.max
 have hid := hp.id
 refine SW.region _ _ _ _ ?_
 refine RL.s ?_
 refine NV.box rfl (by exact (rfl : _ = [_, _])) ?_
 intro b1_0
 refine RL.p T ?_
 refine RL.p T ?_
 refine RL.nil _ _ _ _ ?_
 refine hK0 _ _ _ ?_
 refine SW.seq_k fun K1 hK1 => ?_
 refine SW.seq_k fun K2 hK2 => ?_
 refine SW.region _ _ _ _ ?_
 refine RL.p T ?_
 refine RL.lv1 T ?_
 refine RL.p T ?_
 refine RL.p T ?_
 refine RL.p T ?_
 refine RL.join (fr1 := ?_) 5 8 false [9, 10, 11, 12, 13] (fun hs0 hj => ?_) ?_ ?_
 rotate_left
 ·have hs0j := hs0
  try simp only [decide_eq_true_eq, Bool.not_eq_true', decide_eq_false_iff_not, Bool.not_eq_false', Int.not_lt, Int.not_le, Int.toNat_natCast, Bool.and_eq_true, Bool.or_eq_true, Bool.and_eq_false_iff, Bool.or_eq_false_iff] at hs0
  refine RL.p T ?_
  refine RL.lv1 T ?_
  refine RL.p T ?_
  refine RL.c fun14 (fun hs => whole p.n (by omega)) ?_
  rintro _ _ ⟨rfl, e⟩; obtain rfl := e.symm
  refine RL.p T ?_
  exact hj
 ·repeat first | exact Mx.refl | exact Mx.mix | refine Mx.put rfl ?_ | refine Mx.upd rfl ?_ | refine Mx.updl rfl ?_ | refine Mx.fin rfl ?_ | refine Mx.inner rfl ?_ | refine Mx.none ?_
 refine RL.or ?_
 refine RL.nil _ _ _ _ ?_
 refine hK2 _ _ _ ?_
 refine SW.cs (fun hc0 => ?_) (fun hc0 => ?_)
 ·skip
  refine SW.seq_k fun K3 hK3 => ?_
  refine SW.region _ _ _ _ ?_
  refine RL.p T ?_
  refine RL.p T ?_
  refine RL.nil _ _ _ _ ?_
  refine hK3 _ _ _ ?_
  refine SW.ret ?_
  refine retQ.rr (H) ?_
  clear hK3 K3 hK2 K2 hK1 K1 hK0 K0
  refine ⟨?_, rfl⟩
  first
    | (rw [sizeP_bad (p := p) (by rw [← hl]; omega)]; rfl)
    | (rw [sizeP_ok (p := p) (by omega) (by rw [← hl]; omega), ← hl]; rfl)
 ·skip
  refine SW.skip ?_
  refine hK1 _ _ _ ?_
  refine SW.seq_k fun K4 hK4 => ?_
  refine SW.region _ _ _ _ ?_
  refine RL.p T ?_
  refine RL.lv1 T ?_
  refine RL.p T ?_
  refine RL.c fun14 (fun hs => whole p.n (by omega)) ?_
  rintro _ _ ⟨rfl, e⟩; obtain rfl := e.symm
  refine RL.p T ?_
  refine RL.p T ?_
  refine RL.nil _ _ _ _ ?_
  refine hK4 _ _ _ ?_
  refine SW.ret ?_
  refine retQ.rr (H) ?_
  clear hK4 K4 hK2 K2 hK1 K1 hK0 K0
  refine ⟨?_, rfl⟩
  first
    | (rw [sizeP_bad (p := p) (by rw [← hl]; omega)]; rfl)
    | (rw [sizeP_ok (p := p) (by omega) (by rw [← hl]; omega), ← hl]; rfl)
theorem pone {w0 : World} {H : List Chunk} (p : Pd) (hp : PdOk w0 H p) (h2 : p.data.length ≤ 2048) : SC Try.prog w0 13 #[PdA p] H (fun v H' => ∃ a c, v = .slice a (wholeN p.data.length) c ∧ H' = .row a (wholeN p.data.length) c 5 1 (List.map (Value.int .u8) (bytesP p)) :: H) := by
 refine SC.enter Try.func13 rfl (Nat.le_of_ble_eq_true rfl) ?_
 refine SW.seq_k fun K0 hK0 => ?_
 have hl := hp.len
 have hm := hp.max
 have hid := hp.id
 refine SW.region _ _ _ _ ?_
 refine RL.s ?_
 refine NV.box rfl (by exact (rfl : _ = [_, _])) ?_
 intro b1_0
 refine RL.p T ?_
 refine RL.nil _ _ _ _ ?_
 refine hK0 _ _ _ ?_
 refine SW.seq_k fun K1 hK1 => ?_
 refine SW.region _ _ _ _ ?_
 refine RL.p T ?_
 refine RL.lv1 T ?_
 first | refine RL.q (QV.shrP rfl rfl rfl (by exact (rfl : _ = ((_ : Nat) : Int))) (by omega) rfl) ?_ | refine RL.q (QV.shift rfl rfl rfl (by omega) (.inr ⟨rfl, rfl⟩)) ?_
 first | refine RL.cv T ?_ | refine RL.p T ?_ | refine RL.ts T ?_
 refine RL.p T ?_
 refine RL.lv1 T ?_
 first | refine RL.q (QV.shrP rfl rfl rfl (by exact (rfl : _ = ((_ : Nat) : Int))) (by omega) rfl) ?_ | refine RL.q (QV.shift rfl rfl rfl (by omega) (.inr ⟨rfl, rfl⟩)) ?_
 first | refine RL.cv T ?_ | refine RL.p T ?_ | refine RL.ts T ?_
 refine RL.p T ?_
 refine RL.lv1 T ?_
 first | refine RL.q (QV.shrP rfl rfl rfl (by exact (rfl : _ = ((_ : Nat) : Int))) (by omega) rfl) ?_ | refine RL.q (QV.shift rfl rfl rfl (by omega) (.inr ⟨rfl, rfl⟩)) ?_
 first | refine RL.cv T ?_ | refine RL.p T ?_ | refine RL.ts T ?_
 refine RL.p T ?_
 refine RL.lv1 T ?_
 first | refine RL.cv T ?_ | refine RL.p T ?_ | refine RL.ts T ?_
 refine RL.p T ?_
 refine RL.lv1 T ?_
 refine RL.p T ?_
 first | refine RL.q (QV.quoP rfl rfl rfl (by omega) (by omega) (by simp only [hiK]; omega)) ?_ | refine RL.q (QV.quo rfl rfl rfl (by omega) rfl) ?_
 first | refine RL.cv T ?_ | refine RL.p T ?_ | refine RL.ts T ?_
 refine RL.p T ?_
 refine RL.lv1 T ?_
 refine RL.p T ?_
 first | refine RL.q (QV.remP rfl rfl rfl (by omega) (by omega)) ?_ | refine RL.q (QV.rem rfl rfl rfl (by omega) rfl) ?_
 first | refine RL.cv T ?_ | refine RL.p T ?_ | refine RL.ts T ?_
 refine RL.bs T rfl rfl rfl (by exact (rfl : _ = some [_, _, _, _, _, _, _, _])) (fun b29_1 => ?_)
 refine RL.p T ?_
 refine RL.nil _ _ _ _ ?_
 refine hK1 _ _ _ ?_
 refine SW.seq_k fun K2 hK2 => ?_
 refine SW.region _ _ _ _ ?_
 refine RL.p T ?_
 refine RL.p T ?_
 refine RL.lv1 T ?_
 refine RL.apI (ki := .u8) (xs := [_, _, _, _, _, _, _, _]) T (fun a0_ c0_ => ?_) (hR := fun hs => hp.rd.cons.cons)
 rw [hd_one]
 refine RL.p T ?_
 refine RL.nil _ _ _ _ ?_
 refine hK2 _ _ _ ?_
 refine SW.seq_k fun K3 hK3 => ?_
 refine SW.block ?_
 refine SW.loopM (fun frB mm fr ds HH => ∃ (j : Nat) (a : Option Addr) (c : Nat), mm = padN p.data.length - j ∧ (j ≤ padN p.data.length) ∧ FrIs [3, 34, 35, 36, 37, 38, 39, 40] frB fr [(3, .slice a (8 + p.n + j) c)] ∧ ds = [] ∧ HH = (.row a (8 + p.n + j) c 5 1 (List.map (Value.int .u8) (hdP p.id p.data.length ++ p.data ++ List.replicate j 0)) :: .var b1_0 35 (PdC p) :: H)) (n := padN p.data.length - 0) ?_ ?_
 ·exact ⟨0, a0_, c0_, rfl, Nat.zero_le _, (.cons rfl (.nil (by repeat first | exact Mx.refl | exact Mx.mix | refine Mx.put rfl ?_ | refine Mx.upd rfl ?_ | refine Mx.updl rfl ?_ | refine Mx.fin rfl ?_ | refine Mx.inner rfl ?_ | refine Mx.none ?_))), rfl, (by simp [hl, PdC])⟩
 ·rintro mm fr ds HH ⟨j, a, c, rfl, hj, hFr, rfl, eHH⟩
  obtain rfl := eHH.symm
  obtain ⟨frU, rfl⟩ := hFr.eq
  clear hFr
  have hpad := pad_lt p.data.length
  refine SW.seq_k fun K4 hK4 => ?_
  refine SW.seq_k fun K5 hK5 => ?_
  refine SW.region _ _ _ _ ?_
  refine RL.p T ?_
  refine RL.p T ?_
  first | refine RL.q (QV.remP rfl rfl rfl (by omega) (by omega)) ?_ | refine RL.q (QV.rem rfl rfl rfl (by omega) rfl) ?_
  refine RL.p T ?_
  refine RL.nil _ _ _ _ ?_
  refine hK5 _ _ _ ?_
  refine SW.cs (fun hc0 => ?_) (fun hc0 => ?_)
  ·skip
   first
    | (exfalso; first | omega | contradiction)
    | (
     refine SW.skip ?_
     refine hK4 _ _ _ ?_
     refine SW.block ?_
     have hjs := pad_step hl hj (by omega)
     refine SW.region _ _ _ _ ?_
     refine RL.p T ?_
     refine RL.bs T rfl rfl rfl (by exact (rfl : _ = some [_])) (fun b39_2 => ?_)
     first | refine RL.apI1 (ki := .u8) T (fun a0_ c0_ => ?_) | refine RL.apI (ki := .u8) T (fun a0_ c0_ => ?_) | refine RL.apI (ki := .u8) (xs := []) T (fun a0_ c0_ => ?_)
     refine RL.p T ?_
     refine RL.nil _ _ _ _ ?_
     exact ⟨padN p.data.length - (j + 1), (by omega), j + 1, a0_, c0_, (by rfl), hjs, (.cons rfl (.nil (by repeat first | exact Mx.refl | exact Mx.mix | refine Mx.put rfl ?_ | refine Mx.upd rfl ?_ | refine Mx.updl rfl ?_ | refine Mx.fin rfl ?_ | refine Mx.inner rfl ?_ | refine Mx.none ?_))), rfl, (by rw [List.replicate_succ', ← List.append_assoc]; rfl)⟩
     )
  ·skip
   first
    | (exfalso; first | omega | contradiction)
    | (
     refine SW.exit ?_
     refine hK3 _ _ _ ?_
     refine SW.seq_k fun K6 hK6 => ?_
     refine SW.region _ _ _ _ ?_
     refine RL.p T ?_
     refine RL.p T ?_
     refine RL.nil _ _ _ _ ?_
     refine hK6 _ _ _ ?_
     refine SW.ret ?_
     obtain rfl : j = padN p.data.length := pad_end hl hj (by omega)
     rw [hl]
     refine retQ.rr ((.row a (wholeN p.data.length) c 5 1 (List.map (Value.int .u8) (bytesP p)) :: H)) ?_
     clear hK6 K6 hK5 K5 hK4 K4 hK3 K3 hK2 K2 hK1 K1 hK0 K0
     exact ⟨a, c, rfl, rfl⟩
     )
end Go.Proofs.Ythigfghfpmpiiaa.M
