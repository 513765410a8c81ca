import Derived.Test.YthigfghfpmpiiaaDoorProg
import Derived.Test.YthigfghfpmpiiaaDoorP19
set_option linter.unusedVariables false
set_option linter.unusedSimpArgs false
namespace Go.Proofs.YthigfghfpmpiiaaDoor.M
open Go Go.Sep Go.Proofs
set_option maxRecDepth 10000
set_option maxHeartbeats 2000000
noncomputable def T : Tab Tryd.prog := ⟨Tryd.prog.info?, Tryd.prog.underlying, fun _ _ h => h, fun _ _ h => h⟩
theorem mixed : Tryd.prog.follows .mixedOrders = true := by kernel_rfl
theorem fun14 : Fun Tryd.prog 14 := Fun.mk Tryd.func14 (by kernel_rfl) (by kernel_rfl)
theorem fun15 : Fun Tryd.prog 15 := Fun.mk Tryd.func15 (by kernel_rfl) (by kernel_rfl)
theorem fun13 : Fun Tryd.prog 13 := Fun.mk Tryd.func13 (by kernel_rfl) (by kernel_rfl)
theorem fun16 : Fun Tryd.prog 16 := Fun.mk Tryd.func16 (by kernel_rfl) (by kernel_rfl)
theorem fun10 : Fun Tryd.prog 10 := Fun.mk Tryd.func10 (by kernel_rfl) (by kernel_rfl)
theorem fun22 : Fun Tryd.prog 22 := Fun.mk Tryd.func22 (by kernel_rfl) (by kernel_rfl)
theorem fun23 : Fun Tryd.prog 23 := Fun.mk Tryd.func23 (by kernel_rfl) (by kernel_rfl)
theorem fun20 : Fun Tryd.prog 20 := Fun.mk Tryd.func20 (by kernel_rfl) (by kernel_rfl)
theorem same {w0 : World} {H : List Chunk} (sa sb : Option Addr) (n c nb cb : Nat) (es fs : List Int) (hR : Rd w0 H sa n c 1 (es.map (.int .u8))) (hS : Rd w0 H sb nb cb 1 (fs.map (.int .u8))) (hn : n = es.length) (hm : nb = fs.length) (hm1 : n ≤ 140737488351232) (hm2 : nb ≤ 140737488351232) : SC Tryd.prog w0 16 #[.slice sa n c, .slice sb nb cb] H (fun v H' => v = .bool (decide (es = fs)) ∧ H' = H) := by
 refine SC.enter Tryd.func16 rfl (Nat.le_of_ble_eq_true rfl) ?_
 refine SW.seq_k fun K0 hK0 => ?_
 refine SW.region _ _ _ _ ?_
 refine RL.p T ?_
 refine RL.nil _ _ _ _ ?_
 refine hK0 _ _ _ ?_
 refine SW.seq_k fun K1 hK1 => ?_
 refine SW.seq_k fun K2 hK2 => ?_
 refine SW.region _ _ _ _ ?_
 refine RL.p T ?_
 refine RL.p T ?_
 refine RL.p T ?_
 refine RL.p T ?_
 refine RL.p T ?_
 refine RL.nil _ _ _ _ ?_
 refine hK2 _ _ _ ?_
 refine SW.cs (fun hc0 => ?_) (fun hc0 => ?_)
 ·skip
  refine SW.seq_k fun K3 hK3 => ?_
  refine SW.region _ _ _ _ ?_
  refine RL.p T ?_
  refine RL.nil _ _ _ _ ?_
  refine hK3 _ _ _ ?_
  refine SW.ret ?_
  refine retQ.rr (H) ?_
  clear hK3 K3 hK2 K2 hK1 K1 hK0 K0
  refine ⟨boolE ?_, rfl⟩; first | (rw [same_len (by omega)]; done) | (rw [same_ne (k := k) (by omega)]; done) | (rw [same_end (k := k) (by omega) (by omega) hb]; done)
 ·skip
  refine SW.skip ?_
  refine hK1 _ _ _ ?_
  refine SW.seq_k fun K4 hK4 => ?_
  refine SW.seq_k fun K5 hK5 => ?_
  refine SW.region _ _ _ _ ?_
  refine RL.p T ?_
  refine RL.p T ?_
  refine RL.p T ?_
  refine RL.nil _ _ _ _ ?_
  refine hK5 _ _ _ ?_
  refine SW.block ?_
  refine SW.loopM (fun frB mm fr ds HH => ∃ (k : Nat) , mm = n - k ∧ (k ≤ n ∧ (es.take k = fs.take k)) ∧ FrIs [4, 5, 13, 14, 15, 16, 17, 18, 19, 20, 21, 22, 23, 24, 25] frB fr [(13, .int .i64 k)] ∧ ds = [] ∧ HH = H) (n := n - 0) ?_ ?_
  ·exact ⟨0, rfl, ⟨Nat.zero_le _, rfl⟩, (.cons rfl (.nil (by repeat first | with_reducible exact Mx.refl | with_reducible exact Mx.mix | refine Mx.put rfl ?_ | refine Mx.upd rfl ?_ | refine Mx.updl rfl ?_ | refine Mx.fin rfl ?_ | refine Mx.inner rfl ?_ | refine Mx.none ?_ | exact Mx.refl | exact Mx.mix))), rfl, rfl⟩
  ·rintro mm fr ds HH ⟨k, rfl, ⟨hk, hb⟩, hFr, rfl, eHH⟩
   obtain rfl := eHH.symm
   obtain ⟨frU, rfl⟩ := hFr.eq
   clear hFr
   refine SW.seq_k fun K6 hK6 => ?_
   refine SW.region _ _ _ _ ?_
   refine RL.p T ?_
   refine RL.nil _ _ _ _ ?_
   refine hK6 _ _ _ ?_
   refine SW.seq_k fun K7 hK7 => ?_
   refine SW.cs (fun hc1 => ?_) (fun hc1 => ?_)
   ·skip
    refine SW.skip ?_
    refine hK7 _ _ _ ?_
    refine SW.seq_k fun K8 hK8 => ?_
    refine SW.block ?_
    refine SW.seq_k fun K9 hK9 => ?_
    refine SW.region _ _ _ _ ?_
    refine RL.p T ?_
    refine RL.p T ?_
    refine RL.nil _ _ _ _ ?_
    refine hK9 _ _ _ ?_
    refine SW.seq_k fun K10 hK10 => ?_
    refine SW.drawQ [(16, 0), (17, 1), (18, 2), (19, 3), (20, 4), (21, 5), (22, 6), (23, 7), (24, 8)] [[], [], [0, 1], [2, 0, 1], [], [], [4, 5], [6, 4, 5], [3, 2, 0, 1, 7, 6, 4, 5]] mixed (by kernel_rfl) (by kernel_rfl) ?_
    refine QL.p T ?_
    refine QL.p T ?_
    refine QL.ix T ?_ (hR := fun hs => (by first | exact hR | exact hS))
    refine QL.le T ?_ (hR := fun hs => (by first | exact hR | exact hS))
    refine QL.p T ?_
    refine QL.p T ?_
    refine QL.ix T ?_ (hR := fun hs => (by first | exact hR | exact hS))
    refine QL.le T ?_ (hR := fun hs => (by first | exact hR | exact hS))
    refine QL.p T ?_
    refine QL.nil ?_
    refine hK10 _ _ _ ?_
    refine SW.cs (fun hc2 => ?_) (fun hc2 => ?_)
    ·skip
     refine SW.seq_k fun K11 hK11 => ?_
     refine SW.region _ _ _ _ ?_
     refine RL.p T ?_
     refine RL.nil _ _ _ _ ?_
     refine hK11 _ _ _ ?_
     refine SW.ret ?_
     refine retQ.rr (H) ?_
     clear hK11 K11 hK10 K10 hK9 K9 hK8 K8 hK7 K7 hK6 K6 hK5 K5 hK4 K4 hK2 K2 hK1 K1 hK0 K0
     refine ⟨boolE ?_, rfl⟩; first | (rw [same_len (by omega)]; done) | (rw [same_ne (k := k) (by omega)]; done) | (rw [same_end (k := k) (by omega) (by omega) hb]; done)
    ·skip
     refine SW.skip ?_
     refine hK8 _ _ _ ?_
     refine SW.region _ _ _ _ ?_
     first | refine RL.ar ?_ | refine RL.p T ?_
     refine RL.p T ?_
     refine RL.nil _ _ _ _ ?_
     exact ⟨n - (k + 1), (by omega), k + 1, (by rfl), ⟨by omega, same_step (by omega) (by omega) hb (by omega)⟩, (.cons rfl (.nil (by repeat first | with_reducible exact Mx.refl | with_reducible exact Mx.mix | refine Mx.put rfl ?_ | refine Mx.upd rfl ?_ | refine Mx.updl rfl ?_ | refine Mx.fin rfl ?_ | refine Mx.inner rfl ?_ | refine Mx.none ?_ | exact Mx.refl | exact Mx.mix))), rfl, rfl⟩
   ·skip
    refine SW.exit ?_
    refine hK4 _ _ _ ?_
    refine SW.seq_k fun K12 hK12 => ?_
    refine SW.region _ _ _ _ ?_
    refine RL.p T ?_
    refine RL.nil _ _ _ _ ?_
    refine hK12 _ _ _ ?_
    refine SW.ret ?_
    refine retQ.rr (H) ?_
    clear hK12 K12 hK7 K7 hK6 K6 hK5 K5 hK4 K4 hK2 K2 hK1 K1 hK0 K0
    refine ⟨boolE ?_, rfl⟩; first | (rw [same_len (by omega)]; done) | (rw [same_ne (k := k) (by omega)]; done) | (rw [same_end (k := k) (by omega) (by omega) hb]; done)
theorem whole {w0 : World} {H : List Chunk} (L : Nat) (hL : L ≤ 140737488351232) : SC Tryd.prog w0 22 #[.int .i64 (L : Int)] H (fun v H' => v = .int .i64 (wholeN L : Int) ∧ H' = H) := by
 refine SC.enter Tryd.func22 rfl (Nat.le_of_ble_eq_true rfl) ?_
 refine SW.seq_k fun K0 hK0 => ?_
 refine SW.region _ _ _ _ ?_
 refine RL.p T ?_
 refine RL.nil _ _ _ _ ?_
 refine hK0 _ _ _ ?_
 refine SW.seq_k fun K1 hK1 => ?_
 refine SW.region _ _ _ _ ?_
 refine RL.p T ?_
 first | refine RL.ar ?_ | refine RL.p T ?_
 first | refine RL.ar ?_ | refine RL.p T ?_
 first | refine RL.ar ?_ | refine RL.p T ?_
 first | refine RL.q (QV.quoP rfl rfl rfl (by omega) (by omega) (by simp only [hiK]; omega)) ?_ | refine RL.q (QV.quo rfl rfl rfl (by omega) rfl) ?_
 first | refine RL.ar ?_ | refine RL.p T ?_
 refine RL.p T ?_
 refine RL.nil _ _ _ _ ?_
 refine hK1 _ _ _ ?_
 refine SW.ret ?_
 refine retQ.rr (H) ?_
 clear hK1 K1 hK0 K0
 refine ⟨intE ?_, rfl⟩; exact whole_eq L
theorem psize {w0 : World} {H : List Chunk} (p : Pd) (hp : PdOk w0 H p) : SC Tryd.prog w0 13 #[PdA p] H (fun v H' => v = .tuple #[.int .i64 (sizeP p).1, .int .i64 (sizeP p).2] ∧ H' = H) := by
 refine SC.enter Tryd.func13 rfl (Nat.le_of_ble_eq_true rfl) ?_
 refine SW.seq_k fun K0 hK0 => ?_
 have hl := hp.len
 have hm := hp.max
 have hid := hp.id
 refine SW.region _ _ _ _ ?_
 refine RL.s ?_
 refine NV.box rfl (by exact (rfl : _ = [_, _])) ?_
 intro b1_0
 refine RL.p T ?_
 refine RL.p T ?_
 refine RL.nil _ _ _ _ ?_
 refine hK0 _ _ _ ?_
 refine SW.seq_k fun K1 hK1 => ?_
 refine SW.seq_k fun K2 hK2 => ?_
 refine SW.region _ _ _ _ ?_
 refine RL.p T ?_
 refine RL.lv1 T ?_
 refine RL.p T ?_
 refine RL.p T ?_
 refine RL.p T ?_
 refine RL.join (fr1 := ?_) 5 8 false [9, 10, 11, 12, 13] (fun hs0 hj => ?_) ?_ ?_
 rotate_left
 ·have hs0j := hs0
  try simp only [decide_eq_true_eq, Bool.not_eq_true', decide_eq_false_iff_not, Bool.not_eq_false', Int.not_lt, Int.not_le, Int.toNat_natCast, Bool.and_eq_true, Bool.or_eq_true, Bool.and_eq_false_iff, Bool.or_eq_false_iff] at hs0
  refine RL.p T ?_
  refine RL.lv1 T ?_
  refine RL.p T ?_
  refine RL.c fun22 (fun hs => whole p.n (by omega)) ?_
  rintro _ _ ⟨rfl, e⟩; obtain rfl := e.symm
  refine RL.p T ?_
  exact hj
 ·repeat first | with_reducible exact Mx.refl | with_reducible exact Mx.mix | refine Mx.put rfl ?_ | refine Mx.upd rfl ?_ | refine Mx.updl rfl ?_ | refine Mx.fin rfl ?_ | refine Mx.inner rfl ?_ | refine Mx.none ?_ | exact Mx.refl | exact Mx.mix
 refine RL.or ?_
 refine RL.nil _ _ _ _ ?_
 refine hK2 _ _ _ ?_
 refine SW.cs (fun hc0 => ?_) (fun hc0 => ?_)
 ·skip
  refine SW.seq_k fun K3 hK3 => ?_
  refine SW.region _ _ _ _ ?_
  refine RL.p T ?_
  refine RL.p T ?_
  refine RL.nil _ _ _ _ ?_
  refine hK3 _ _ _ ?_
  refine SW.ret ?_
  refine retQ.rr (H) ?_
  clear hK3 K3 hK2 K2 hK1 K1 hK0 K0
  refine ⟨?_, rfl⟩
  first
    | (rw [sizeP_bad (p := p) (by rw [← hl]; omega)]; rfl)
    | (rw [sizeP_ok (p := p) (by omega) (by rw [← hl]; omega), ← hl]; rfl)
 ·skip
  refine SW.skip ?_
  refine hK1 _ _ _ ?_
  refine SW.seq_k fun K4 hK4 => ?_
  refine SW.region _ _ _ _ ?_
  refine RL.p T ?_
  refine RL.lv1 T ?_
  refine RL.p T ?_
  refine RL.c fun22 (fun hs => whole p.n (by omega)) ?_
  rintro _ _ ⟨rfl, e⟩; obtain rfl := e.symm
  refine RL.p T ?_
  refine RL.p T ?_
  refine RL.nil _ _ _ _ ?_
  refine hK4 _ _ _ ?_
  refine SW.ret ?_
  refine retQ.rr (H) ?_
  clear hK4 K4 hK2 K2 hK1 K1 hK0 K0
  refine ⟨?_, rfl⟩
  first
    | (rw [sizeP_bad (p := p) (by rw [← hl]; omega)]; rfl)
    | (rw [sizeP_ok (p := p) (by omega) (by rw [← hl]; omega), ← hl]; rfl)
theorem pone {w0 : World} {H : List Chunk} (p : Pd) (hp : PdOk w0 H p) (h2 : p.data.length ≤ 2048) : SC Tryd.prog w0 23 #[PdA p] H (fun v H' => ∃ a c, v = .slice a (wholeN p.data.length) c ∧ H' = .row a (wholeN p.data.length) c 5 1 (List.map (Value.int .u8) (bytesP p)) :: H) := by
 refine SC.enter Tryd.func23 rfl (Nat.le_of_ble_eq_true rfl) ?_
 refine SW.seq_k fun K0 hK0 => ?_
 have hl := hp.len
 have hm := hp.max
 have hid := hp.id
 refine SW.region _ _ _ _ ?_
 refine RL.s ?_
 refine NV.box rfl (by exact (rfl : _ = [_, _])) ?_
 intro b1_0
 refine RL.p T ?_
 refine RL.nil _ _ _ _ ?_
 refine hK0 _ _ _ ?_
 refine SW.seq_k fun K1 hK1 => ?_
 refine SW.region _ _ _ _ ?_
 refine RL.p T ?_
 refine RL.lv1 T ?_
 first | refine RL.q (QV.shrP rfl rfl rfl (by exact (rfl : _ = ((_ : Nat) : Int))) (by omega) rfl) ?_ | refine RL.q (QV.shift rfl rfl rfl (by omega) (.inr ⟨rfl, rfl⟩)) ?_
 first | refine RL.cv T ?_ | refine RL.p T ?_ | refine RL.ts T ?_
 refine RL.p T ?_
 refine RL.lv1 T ?_
 first | refine RL.q (QV.shrP rfl rfl rfl (by exact (rfl : _ = ((_ : Nat) : Int))) (by omega) rfl) ?_ | refine RL.q (QV.shift rfl rfl rfl (by omega) (.inr ⟨rfl, rfl⟩)) ?_
 first | refine RL.cv T ?_ | refine RL.p T ?_ | refine RL.ts T ?_
 refine RL.p T ?_
 refine RL.lv1 T ?_
 first | refine RL.q (QV.shrP rfl rfl rfl (by exact (rfl : _ = ((_ : Nat) : Int))) (by omega) rfl) ?_ | refine RL.q (QV.shift rfl rfl rfl (by omega) (.inr ⟨rfl, rfl⟩)) ?_
 first | refine RL.cv T ?_ | refine RL.p T ?_ | refine RL.ts T ?_
 refine RL.p T ?_
 refine RL.lv1 T ?_
 first | refine RL.cv T ?_ | refine RL.p T ?_ | refine RL.ts T ?_
 refine RL.p T ?_
 refine RL.lv1 T ?_
 refine RL.p T ?_
 first | refine RL.q (QV.quoP rfl rfl rfl (by omega) (by omega) (by simp only [hiK]; omega)) ?_ | refine RL.q (QV.quo rfl rfl rfl (by omega) rfl) ?_
 first | refine RL.cv T ?_ | refine RL.p T ?_ | refine RL.ts T ?_
 refine RL.p T ?_
 refine RL.lv1 T ?_
 refine RL.p T ?_
 first | refine RL.q (QV.remP rfl rfl rfl (by omega) (by omega)) ?_ | refine RL.q (QV.rem rfl rfl rfl (by omega) rfl) ?_
 first | refine RL.cv T ?_ | refine RL.p T ?_ | refine RL.ts T ?_
 refine RL.bs T rfl rfl rfl (by exact (rfl : _ = some [_, _, _, _, _, _, _, _])) (fun b29_1 => ?_)
 refine RL.p T ?_
 refine RL.nil _ _ _ _ ?_
 refine hK1 _ _ _ ?_
 refine SW.seq_k fun K2 hK2 => ?_
 refine SW.region _ _ _ _ ?_
 refine RL.p T ?_
 refine RL.p T ?_
 refine RL.lv1 T ?_
 refine RL.apI (ki := .u8) (xs := [_, _, _, _, _, _, _, _]) T (fun a0_ c0_ => ?_) (hR := fun hs => hp.rd.cons.cons)
 rw [hd_one]
 refine RL.p T ?_
 refine RL.nil _ _ _ _ ?_
 refine hK2 _ _ _ ?_
 refine SW.seq_k fun K3 hK3 => ?_
 refine SW.block ?_
 refine SW.loopM (fun frB mm fr ds HH => ∃ (j : Nat) (a : Option Addr) (c : Nat), mm = padN p.data.length - j ∧ (j ≤ padN p.data.length) ∧ FrIs [3, 34, 35, 36, 37, 38, 39, 40] frB fr [(3, .slice a (8 + p.n + j) c)] ∧ ds = [] ∧ HH = (.row a (8 + p.n + j) c 5 1 (List.map (Value.int .u8) (hdP p.id p.data.length ++ p.data ++ List.replicate j 0)) :: .var b1_0 35 (PdC p) :: H)) (n := padN p.data.length - 0) ?_ ?_
 ·exact ⟨0, a0_, c0_, rfl, Nat.zero_le _, (.cons rfl (.nil (by repeat first | with_reducible exact Mx.refl | with_reducible exact Mx.mix | refine Mx.put rfl ?_ | refine Mx.upd rfl ?_ | refine Mx.updl rfl ?_ | refine Mx.fin rfl ?_ | refine Mx.inner rfl ?_ | refine Mx.none ?_ | exact Mx.refl | exact Mx.mix))), rfl, (by simp [hl, PdC])⟩
 ·rintro mm fr ds HH ⟨j, a, c, rfl, hj, hFr, rfl, eHH⟩
  obtain rfl := eHH.symm
  obtain ⟨frU, rfl⟩ := hFr.eq
  clear hFr
  have hpad := pad_lt p.data.length
  refine SW.seq_k fun K4 hK4 => ?_
  refine SW.seq_k fun K5 hK5 => ?_
  refine SW.region _ _ _ _ ?_
  refine RL.p T ?_
  refine RL.p T ?_
  first | refine RL.q (QV.remP rfl rfl rfl (by omega) (by omega)) ?_ | refine RL.q (QV.rem rfl rfl rfl (by omega) rfl) ?_
  refine RL.p T ?_
  refine RL.nil _ _ _ _ ?_
  refine hK5 _ _ _ ?_
  refine SW.cs (fun hc0 => ?_) (fun hc0 => ?_)
  ·skip
   first
    | (exfalso; first | omega | contradiction)
    | (
     refine SW.skip ?_
     refine hK4 _ _ _ ?_
     refine SW.block ?_
     have hjs := pad_step hl hj (by omega)
     refine SW.region _ _ _ _ ?_
     refine RL.p T ?_
     refine RL.bs T rfl rfl rfl (by exact (rfl : _ = some [_])) (fun b39_2 => ?_)
     first | refine RL.apI1 (ki := .u8) T (fun a0_ c0_ => ?_) | refine RL.apI (ki := .u8) T (fun a0_ c0_ => ?_) | refine RL.apI (ki := .u8) (xs := []) T (fun a0_ c0_ => ?_)
     refine RL.p T ?_
     refine RL.nil _ _ _ _ ?_
     exact ⟨padN p.data.length - (j + 1), (by omega), j + 1, a0_, c0_, (by rfl), hjs, (.cons rfl (.nil (by repeat first | with_reducible exact Mx.refl | with_reducible exact Mx.mix | refine Mx.put rfl ?_ | refine Mx.upd rfl ?_ | refine Mx.updl rfl ?_ | refine Mx.fin rfl ?_ | refine Mx.inner rfl ?_ | refine Mx.none ?_ | exact Mx.refl | exact Mx.mix))), rfl, (by rw [List.replicate_succ', ← List.append_assoc]; rfl)⟩
     )
  ·skip
   first
    | (exfalso; first | omega | contradiction)
    | (
     refine SW.exit ?_
     refine hK3 _ _ _ ?_
     refine SW.seq_k fun K6 hK6 => ?_
     refine SW.region _ _ _ _ ?_
     refine RL.p T ?_
     refine RL.p T ?_
     refine RL.nil _ _ _ _ ?_
     refine hK6 _ _ _ ?_
     refine SW.ret ?_
     obtain rfl : j = padN p.data.length := pad_end hl hj (by omega)
     rw [hl]
     refine retQ.rr ((.row a (wholeN p.data.length) c 5 1 (List.map (Value.int .u8) (bytesP p)) :: H)) ?_
     clear hK6 K6 hK5 K5 hK4 K4 hK3 K3 hK2 K2 hK1 K1 hK0 K0
     exact ⟨a, c, rfl, rfl⟩
     )
theorem pput {w0 : World} {H : List Chunk} (p : Pd) (hp : PdOk w0 H p) (a : Option Addr) (n c : Nat) (xs : List Int) (hn : n = xs.length) (hm2 : n ≤ 2048) (h2 : p.data.length ≤ 2048) : SC Tryd.prog w0 20 #[.slice a n c, PdA p] (.row a n c 5 1 (List.map (Value.int .u8) (xs)) :: H) (fun v H' => ∃ a' c', v = .slice a' (n + wholeN p.data.length) c' ∧ H' = .row a' (n + wholeN p.data.length) c' 5 1 (List.map (Value.int .u8) (xs ++ bytesP p)) :: H) := by
 refine SC.enter Tryd.func20 rfl (Nat.le_of_ble_eq_true rfl) ?_
 refine SW.seq_k fun K0 hK0 => ?_
 have hl := hp.len
 have hm := hp.max
 have hid := hp.id
 have hpad := pad_lt p.data.length
 have hwn : wholeN p.data.length = 8 + p.data.length + padN p.data.length := rfl
 refine SW.region _ _ _ _ ?_
 refine RL.s ?_
 refine NV.box rfl (by exact (rfl : _ = [_, _])) ?_
 intro b3_0
 refine RL.p T ?_
 refine RL.nil _ _ _ _ ?_
 refine hK0 _ _ _ ?_
 refine SW.seq_k fun K1 hK1 => ?_
 refine SW.region _ _ _ _ ?_
 refine RL.p T ?_
 refine RL.p T ?_
 refine RL.p T ?_
 refine RL.nil _ _ _ _ ?_
 refine hK1 _ _ _ ?_
 refine SW.seq_k fun K2 hK2 => ?_
 refine SW.region _ _ _ _ ?_
 refine RL.p T ?_
 refine RL.lv1 T ?_
 refine RL.p T ?_
 refine RL.p T ?_
 refine RL.nil _ _ _ _ ?_
 refine hK2 _ _ _ ?_
 refine SW.seq_k fun K3 hK3 => ?_
 refine SW.region _ _ _ _ ?_
 refine RL.p T ?_
 refine RL.p T ?_
 refine RL.lv1 T ?_
 first | refine RL.q (QV.shrP rfl rfl rfl (by exact (rfl : _ = ((_ : Nat) : Int))) (by omega) rfl) ?_ | refine RL.q (QV.shift rfl rfl rfl (by omega) (.inr ⟨rfl, rfl⟩)) ?_
 first | refine RL.cv T ?_ | refine RL.p T ?_ | refine RL.ts T ?_
 refine RL.p T ?_
 refine RL.lv1 T ?_
 first | refine RL.q (QV.shrP rfl rfl rfl (by exact (rfl : _ = ((_ : Nat) : Int))) (by omega) rfl) ?_ | refine RL.q (QV.shift rfl rfl rfl (by omega) (.inr ⟨rfl, rfl⟩)) ?_
 first | refine RL.cv T ?_ | refine RL.p T ?_ | refine RL.ts T ?_
 refine RL.p T ?_
 refine RL.lv1 T ?_
 first | refine RL.q (QV.shrP rfl rfl rfl (by exact (rfl : _ = ((_ : Nat) : Int))) (by omega) rfl) ?_ | refine RL.q (QV.shift rfl rfl rfl (by omega) (.inr ⟨rfl, rfl⟩)) ?_
 first | refine RL.cv T ?_ | refine RL.p T ?_ | refine RL.ts T ?_
 refine RL.p T ?_
 refine RL.lv1 T ?_
 first | refine RL.cv T ?_ | refine RL.p T ?_ | refine RL.ts T ?_
 refine RL.p T ?_
 first | refine RL.q (QV.shrP rfl rfl rfl (by exact (rfl : _ = ((_ : Nat) : Int))) (by omega) rfl) ?_ | refine RL.q (QV.shift rfl rfl rfl (by omega) (.inr ⟨rfl, rfl⟩)) ?_
 first | refine RL.cv T ?_ | refine RL.p T ?_ | refine RL.ts T ?_
 refine RL.p T ?_
 first | refine RL.cv T ?_ | refine RL.p T ?_ | refine RL.ts T ?_
 refine RL.bs T rfl rfl rfl (by exact (rfl : _ = some [_, _, _, _, _, _, _, _])) (fun b33_1 => ?_)
 first | refine RL.apI1 (ki := .u8) T (fun a0_ c0_ => ?_) | refine RL.apI (ki := .u8) T (fun a0_ c0_ => ?_) | refine RL.apI (ki := .u8) (xs := []) T (fun a0_ c0_ => ?_)
 refine RL.p T ?_
 refine RL.nil _ _ _ _ ?_
 refine hK3 _ _ _ ?_
 refine SW.seq_k fun K4 hK4 => ?_
 refine SW.region _ _ _ _ ?_
 refine RL.p T ?_
 refine RL.p T ?_
 refine RL.lv1 T ?_
 refine RL.apI (ki := .u8) T (fun a1_ c1_ => ?_) (hR := fun hs => hp.rd.cons.cons)
 refine RL.p T ?_
 refine RL.nil _ _ _ _ ?_
 refine hK4 _ _ _ ?_
 refine SW.seq_k fun K5 hK5 => ?_
 refine SW.region _ _ _ _ ?_
 refine RL.p T ?_
 refine RL.p T ?_
 refine RL.c fun22 (fun hs => whole p.n (by omega)) ?_
 rintro _ _ ⟨rfl, e⟩; obtain rfl := e.symm
 rw [hl]
 refine RL.p T ?_
 refine RL.p T ?_
 refine RL.p T ?_
 first | refine RL.ar ?_ | refine RL.p T ?_
 first | refine RL.ar ?_ | refine RL.p T ?_
 refine RL.apZ (m := padN p.data.length) (ki := .u8) T (fun a2_ c2_ => ?_)
 refine RL.p T ?_
 refine RL.nil _ _ _ _ ?_
 refine hK5 _ _ _ ?_
 refine SW.ret ?_
 have e1 : ∀ q, n + 8 + p.data.length + q = n + (8 + p.data.length + q) := fun q => by omega
 rw [e1, put_row]
 refine retQ.rr ((.row a2_ (n + wholeN p.data.length) c2_ 5 1 (List.map (Value.int .u8) (xs ++ bytesP p)) :: H)) ?_
 clear hK5 K5 hK4 K4 hK3 K3 hK2 K2 hK1 K1 hK0 K0
 exact ⟨_, _, rfl, rfl⟩
theorem pjoin {w0 : World} {H : List Chunk} (ps : List Pd) (sr : Option Addr) (nr cr : Nat) (hB : Rd w0 H sr nr cr 2 (ps.flatMap PdC)) (hnr : nr = ps.length) (hmr : nr ≤ 4398046511000) (hps : ∀ k, PdOk w0 H (ps.getD k default)) : SC Tryd.prog w0 10 #[.slice sr nr cr] H (fun v H' => ∃ a c, v = .tuple #[.slice a (joinV ps).1.length c, .int .i64 (joinV ps).2] ∧ H' = .row a (joinV ps).1.length c 5 1 (List.map (Value.int .u8) ((joinV ps).1)) :: H) := by
 refine SC.enter Tryd.func10 rfl (Nat.le_of_ble_eq_true rfl) ?_
 refine SW.seq_k fun K0 hK0 => ?_
 refine SW.region _ _ _ _ ?_
 refine RL.p T ?_
 refine RL.p T ?_
 refine RL.nil _ _ _ _ ?_
 refine hK0 _ _ _ ?_
 refine SW.seq_k fun K1 hK1 => ?_
 refine SW.seq_k fun K2 hK2 => ?_
 refine SW.region _ _ _ _ ?_
 refine RL.p T ?_
 refine RL.p T ?_
 refine RL.p T ?_
 refine RL.nil _ _ _ _ ?_
 refine hK2 _ _ _ ?_
 refine SW.cs (fun hc0 => ?_) (fun hc0 => ?_)
 ·skip
  first
   | (exfalso; first | omega | contradiction)
   | (
    refine SW.seq_k fun K3 hK3 => ?_
    refine SW.nilrow 5 1 ?_
    refine SW.region _ _ _ _ ?_
    refine RL.p T ?_
    refine RL.p T ?_
    refine RL.nil _ _ _ _ ?_
    refine hK3 _ _ _ ?_
    refine SW.ret ?_
    refine retQ.rr ((.row none 0 0 5 1 (List.map (Value.int .u8) []) :: H)) ?_
    clear hK3 K3 hK2 K2 hK1 K1 hK0 K0
    first
      | (have hJ : joinV ps = ([], 9) := joinV_nil (by omega); exact ⟨_, _, (by rw [hJ]; try rfl), (by rw [hJ]; try rfl)⟩)
      | (have h2 : (sizeP (ps.getD k default)).2 = 2 := by have := sizeP_or (ps.getD k default); omega
         rw [h2]
         (have hJ : joinV ps = ([], 2) := (joinV_cons (by omega)).trans (hinv.trans (join_bad (by omega) (by omega))); exact ⟨_, _, (by rw [hJ]; try rfl), (by rw [hJ]; try rfl)⟩))
      | (have hJ : joinV ps = ([], 2) := (joinV_cons (by omega)).trans (hinv.trans (join_bad (by omega) (by omega))); exact ⟨_, _, (by rw [hJ]; try rfl), (by rw [hJ]; try rfl)⟩)
      | (subst hmo
         (have hJ : joinV ps = (out, 0) := (joinV_cons (by omega)).trans (hinv.trans (join_end (by omega))); exact ⟨_, _, (by rw [hJ]; try rfl), (by rw [hJ]; try rfl)⟩))
    )
 ·skip
  first
   | (exfalso; first | omega | contradiction)
   | (
    refine SW.skip ?_
    refine hK1 _ _ _ ?_
    refine SW.seq_k fun K4 hK4 => ?_
    refine SW.region _ _ _ _ ?_
    refine RL.nilrow 5 1 ?_
    refine RL.p T ?_
    refine RL.nil _ _ _ _ ?_
    refine hK4 _ _ _ ?_
    refine SW.seq_k fun K5 hK5 => ?_
    refine SW.seq_k fun K6 hK6 => ?_
    refine SW.region _ _ _ _ ?_
    refine RL.p T ?_
    refine RL.p T ?_
    refine RL.p T ?_
    refine RL.nil _ _ _ _ ?_
    refine hK6 _ _ _ ?_
    refine SW.block ?_
    refine SW.loopM (fun frB mm fr ds HH => ∃ (k m : Nat) (a : Option Addr) (c : Nat) (out : List Int), mm = nr - k ∧ (k ≤ nr ∧ m = out.length ∧ m ≤ 2048 ∧ joinS ps [] = joinS (ps.drop k) out) ∧ FrIs [2, 3, 4, 6, 7, 8, 14, 15, 16, 17, 18, 19, 20, 21, 22, 23, 24, 25, 26, 27, 28, 29, 30, 31, 32, 33, 34, 35] frB fr [(4, .slice a m c), (14, .int .i64 k)] ∧ ds = [] ∧ HH = (.row a m c 5 1 (List.map (Value.int .u8) (out)) :: H)) (n := nr - 0) ?_ ?_
    ·exact ⟨0, 0, none, 0, [], rfl, ⟨Nat.zero_le _, rfl, by omega, rfl⟩, (.cons rfl (.consI rfl (by first | omega | rfl) (.nil (by repeat first | with_reducible exact Mx.refl | with_reducible exact Mx.mix | refine Mx.put rfl ?_ | refine Mx.upd rfl ?_ | refine Mx.updl rfl ?_ | refine Mx.fin rfl ?_ | refine Mx.inner rfl ?_ | refine Mx.none ?_ | exact Mx.refl | exact Mx.mix)))), rfl, rfl⟩
    ·rintro mm fr ds HH ⟨k, m, a, c, out, rfl, ⟨hk, hmo, hml, hinv⟩, hFr, rfl, eHH⟩
     obtain rfl := eHH.symm
     obtain ⟨frU, rfl⟩ := hFr.eq
     clear hFr
     have hsz := sizeP_rng (ps.getD k default)
     refine SW.seq_k fun K7 hK7 => ?_
     refine SW.region _ _ _ _ ?_
     refine RL.p T ?_
     refine RL.nil _ _ _ _ ?_
     refine hK7 _ _ _ ?_
     refine SW.seq_k fun K8 hK8 => ?_
     refine SW.cs (fun hc1 => ?_) (fun hc1 => ?_)
     ·skip
      first
       | (exfalso; first | omega | contradiction)
       | (
        refine SW.skip ?_
        refine hK8 _ _ _ ?_
        refine SW.seq_k fun K9 hK9 => ?_
        refine SW.block ?_
        refine SW.seq_k fun K10 hK10 => ?_
        refine SW.region _ _ _ _ ?_
        refine RL.ix T ?_ (hR := fun hs => hB.cons)
        refine RL.leN T ?_ (hR := fun hs => hB.cons) (hvs := (by exact (rfl : _ = [_, _])))
        refine RL.s ?_
        refine NV.alloc T rfl rfl rfl (by exact (rfl : _ = [_, _])) ?_
        intro b6_0
        refine RL.s ?_
        first
          | refine NV.store_var1 T rfl rfl rfl rfl (by conv => lhs; whnf) rfl (by repeat first | exact At.head _ _ | assumption | exact At.put (by assumption) _ | apply At.tail | apply At.app) rfl (by exact (rfl : _ = [_, _])) ?_
          | refine NV.store_var T rfl rfl rfl (by exact (rfl : _ = [_, _])) rfl rfl (by repeat first | exact At.head _ _ | assumption | exact At.put (by assumption) _ | apply At.tail | apply At.app) (Nat.le_of_ble_eq_true rfl) (by exact (rfl : _ = [_, _])) ?_
          | refine NV.store_elem T rfl rfl rfl rfl (by conv => lhs; whnf) rfl (by repeat first | exact At.head _ _ | assumption | exact At.put (by assumption) _ | apply At.tail | apply At.app) (by omega) ?_
        refine RL.nil _ _ _ _ ?_
        refine hK10 _ _ _ ?_
        refine SW.seq_k fun K11 hK11 => ?_
        refine SW.region _ _ _ _ ?_
        refine RL.lvN T rfl rfl rfl rfl rfl (by repeat first | exact At.head _ _ | assumption | exact At.put (by assumption) _ | apply At.tail | apply At.app) (by exact (rfl : _ = [_, _])) ?_
        refine RL.c fun13 (fun hs => psize (ps.getD k default) (hps k).cons.cons) ?_
        rintro _ _ ⟨rfl, e⟩; obtain rfl := e.symm
        refine RL.p T ?_
        refine RL.p T ?_
        refine RL.p T ?_
        refine RL.p T ?_
        refine RL.p T ?_
        refine RL.nil _ _ _ _ ?_
        refine hK11 _ _ _ ?_
        refine SW.seq_k fun K12 hK12 => ?_
        refine SW.seq_k fun K13 hK13 => ?_
        refine SW.region _ _ _ _ ?_
        refine RL.p T ?_
        refine RL.p T ?_
        refine RL.p T ?_
        refine RL.join (fr1 := ?_) 5 25 false [26, 27, 28, 29, 30] (fun hs0 hj => ?_) ?_ ?_
        rotate_left
        ·have hs0j := hs0
         try simp only [decide_eq_true_eq, Bool.not_eq_true', decide_eq_false_iff_not, Bool.not_eq_false', Int.not_lt, Int.not_le, Int.toNat_natCast, Bool.and_eq_true, Bool.or_eq_true, Bool.and_eq_false_iff, Bool.or_eq_false_iff] at hs0
         refine RL.p T ?_
         refine RL.p T ?_
         refine RL.p T ?_
         first | refine RL.ar ?_ | refine RL.p T ?_
         refine RL.p T ?_
         exact hj
        ·repeat first | with_reducible exact Mx.refl | with_reducible exact Mx.mix | refine Mx.put rfl ?_ | refine Mx.upd rfl ?_ | refine Mx.updl rfl ?_ | refine Mx.fin rfl ?_ | refine Mx.inner rfl ?_ | refine Mx.none ?_ | exact Mx.refl | exact Mx.mix
        refine RL.or ?_
        refine RL.nil _ _ _ _ ?_
        refine hK13 _ _ _ ?_
        refine SW.cs (fun hc2 => ?_) (fun hc2 => ?_)
        ·skip
         first
          | (exfalso; first | omega | contradiction)
          | (
           refine SW.seq_k fun K14 hK14 => ?_
           refine SW.nilrow 5 1 ?_
           refine SW.region _ _ _ _ ?_
           refine RL.p T ?_
           refine RL.p T ?_
           refine RL.nil _ _ _ _ ?_
           refine hK14 _ _ _ ?_
           refine SW.ret ?_
           refine retQ.rr ((.row none 0 0 5 1 (List.map (Value.int .u8) []) :: H)) ?_
           clear hK14 K14 hK13 K13 hK12 K12 hK11 K11 hK10 K10 hK9 K9 hK8 K8 hK7 K7 hK6 K6 hK5 K5 hK4 K4 hK2 K2 hK1 K1 hK0 K0
           first
             | (have hJ : joinV ps = ([], 9) := joinV_nil (by omega); exact ⟨_, _, (by rw [hJ]; try rfl), (by rw [hJ]; try rfl)⟩)
             | (have h2 : (sizeP (ps.getD k default)).2 = 2 := by have := sizeP_or (ps.getD k default); omega
                rw [h2]
                (have hJ : joinV ps = ([], 2) := (joinV_cons (by omega)).trans (hinv.trans (join_bad (by omega) (by omega))); exact ⟨_, _, (by rw [hJ]; try rfl), (by rw [hJ]; try rfl)⟩))
             | (have hJ : joinV ps = ([], 2) := (joinV_cons (by omega)).trans (hinv.trans (join_bad (by omega) (by omega))); exact ⟨_, _, (by rw [hJ]; try rfl), (by rw [hJ]; try rfl)⟩)
             | (subst hmo
                (have hJ : joinV ps = (out, 0) := (joinV_cons (by omega)).trans (hinv.trans (join_end (by omega))); exact ⟨_, _, (by rw [hJ]; try rfl), (by rw [hJ]; try rfl)⟩))
           )
        ·skip
         first
          | (exfalso; first | omega | contradiction)
          | (
           refine SW.skip ?_
           refine hK12 _ _ _ ?_
           have hz0 : (sizeP (ps.getD k default)).2 = 0 := by omega
           have hz := sizeP_0 hz0
           refine SW.region _ _ _ _ ?_
           refine RL.p T ?_
           refine RL.lvN T rfl rfl rfl rfl rfl (by repeat first | exact At.head _ _ | assumption | exact At.put (by assumption) _ | apply At.tail | apply At.app) (by exact (rfl : _ = [_, _])) ?_
           refine RL.c fun20 (fun hs => SC.swap (pput (ps.getD k default) (hps k).cons a m c out hmo hml hz.1)) ?_
           rintro _ _ ⟨a3, c3, rfl, e⟩; obtain rfl := e.symm
           refine RL.p T ?_
           refine RL.perm (.swap _ _ _) (RL.drop ?_)
           refine RL.nil _ _ _ _ ?_
           refine hK9 _ _ _ ?_
           refine SW.region _ _ _ _ ?_
           first | refine RL.ar ?_ | refine RL.p T ?_
           refine RL.p T ?_
           refine RL.nil _ _ _ _ ?_
           exact ⟨nr - (k + 1), (by omega), k + 1, m + wholeN (ps.getD k default).data.length, a3, c3, out ++ bytesP (ps.getD k default), (by rfl), ⟨by omega, by rw [List.length_append, bytesP_len, hmo], by omega, hinv.trans (join_step (by omega) hz0 (by omega))⟩, (.cons rfl (.consI rfl (by first | omega | rfl) (.nil (by repeat first | with_reducible exact Mx.refl | with_reducible exact Mx.mix | refine Mx.put rfl ?_ | refine Mx.upd rfl ?_ | refine Mx.updl rfl ?_ | refine Mx.fin rfl ?_ | refine Mx.inner rfl ?_ | refine Mx.none ?_ | exact Mx.refl | exact Mx.mix)))), rfl, rfl⟩
           )
        )
     ·skip
      first
       | (exfalso; first | omega | contradiction)
       | (
        refine SW.exit ?_
        refine hK5 _ _ _ ?_
        refine SW.seq_k fun K15 hK15 => ?_
        refine SW.region _ _ _ _ ?_
        refine RL.p T ?_
        refine RL.p T ?_
        refine RL.p T ?_
        refine RL.nil _ _ _ _ ?_
        refine hK15 _ _ _ ?_
        refine SW.ret ?_
        refine retQ.rr ((.row a m c 5 1 (List.map (Value.int .u8) (out)) :: H)) ?_
        clear hK15 K15 hK8 K8 hK7 K7 hK6 K6 hK5 K5 hK4 K4 hK2 K2 hK1 K1 hK0 K0
        first
          | (have hJ : joinV ps = ([], 9) := joinV_nil (by omega); exact ⟨_, _, (by rw [hJ]; try rfl), (by rw [hJ]; try rfl)⟩)
          | (have h2 : (sizeP (ps.getD k default)).2 = 2 := by have := sizeP_or (ps.getD k default); omega
             rw [h2]
             (have hJ : joinV ps = ([], 2) := (joinV_cons (by omega)).trans (hinv.trans (join_bad (by omega) (by omega))); exact ⟨_, _, (by rw [hJ]; try rfl), (by rw [hJ]; try rfl)⟩))
          | (have hJ : joinV ps = ([], 2) := (joinV_cons (by omega)).trans (hinv.trans (join_bad (by omega) (by omega))); exact ⟨_, _, (by rw [hJ]; try rfl), (by rw [hJ]; try rfl)⟩)
          | (subst hmo
             (have hJ : joinV ps = (out, 0) := (joinV_cons (by omega)).trans (hinv.trans (join_end (by omega))); exact ⟨_, _, (by rw [hJ]; try rfl), (by rw [hJ]; try rfl)⟩))
        )
    )
end Go.Proofs.YthigfghfpmpiiaaDoor.M
