import Derived.Test.YtecgicpimgghaaaProg
import Derived.Test.YtecgicpimgghaaaFD18
set_option linter.unusedVariables false
set_option linter.unusedSimpArgs false
namespace Go.Proofs.Ytecgicpimgghaaa.M
open Go Go.Sep Go.Proofs
set_option maxRecDepth 10000
set_option maxHeartbeats 2000000
theorem take6 {es : List Int} (h : 6 ≤ es.length) : (es.map (Value.int .u8)).take 6 = [.int .u8 (bi es 0), .int .u8 (bi es 1), .int .u8 (bi es 2), .int .u8 (bi es 3), .int .u8 (bi es 4), .int .u8 (bi es 5)] := by
  rw [← List.map_take]
  match es, h with
  | _ :: _ :: _ :: _ :: _ :: _ :: _, _ => rfl
theorem take6d {es : List Int} (h : 12 ≤ es.length) : ((es.drop 6).map (Value.int .u8)).take 6 = [.int .u8 (bi es 6), .int .u8 (bi es 7), .int .u8 (bi es 8), .int .u8 (bi es 9), .int .u8 (bi es 10), .int .u8 (bi es 11)] := by
  rw [take6 (by rw [List.length_drop]; omega)]
  simp only [bi_drop]
theorem geteth_long {w0 : World} {H : List Chunk} (sa : Option Addr) (n c : Nat) (es : List Int) (hR : Rd w0 H sa n c 1 (es.map (.int .u8))) (hn : n = es.length) (hm : n ≤ 140737488351232) (hB : Byte es) (h : 2048 < es.length) : SC Try.prog w0 17 #[.slice sa n c] H (fun v H' => EtV w0 H (getEr es) (getEe es) v H') := by
 refine SC.enter Try.func17 rfl (Nat.le_of_ble_eq_true rfl) ?_
 refine SW.seq_k fun K0 hK0 => ?_
 have hb := bi_rng hB
 have hl12 : (es.drop 12).length = n - 12 := by rw [List.length_drop, hn]
 have hR12 : 12 ≤ n → _ := fun h => hR.suf 12 h
 have hw := wN_rng (hB.drop 12)
 refine SW.region _ _ _ _ ?_
 refine RL.s ?_
 refine NV.alloc T rfl rfl rfl (by exact (rfl : _ = [_, _, _, _, _, _, _, _, _, _, _, _, _, _, _, _])) ?_
 intro b2_0
 refine RL.p T ?_
 refine RL.nil _ _ _ _ ?_
 refine hK0 _ _ _ ?_
 refine SW.seq_k fun K1 hK1 => ?_
 refine SW.block ?_
 refine SW.seq_k fun K2 hK2 => ?_
 refine SW.region _ _ _ _ ?_
 refine RL.p T ?_
 refine RL.p T ?_
 refine RL.p T ?_
 refine RL.p T ?_
 refine RL.nil _ _ _ _ ?_
 refine hK2 _ _ _ ?_
 refine SW.cs (fun hc0 => ?_) (fun hc0 => ?_)
 ·skip
  first
   | (exfalso; first | omega | contradiction | (simp at *; done))
   | (
    refine SW.seq_k fun K3 hK3 => ?_
    refine SW.region _ _ _ _ ?_
    refine RL.q (QV.vN T rfl rfl rfl rfl rfl (by exact (rfl : _ = [_, _, _, _, _, _, _, _, _, _, _, _, _, _, _, _]))) ?_
    refine RL.s ?_
    refine NV.sN T rfl rfl rfl (by exact (rfl : _ = [_, _, _, _, _, _, _, _, _, _, _, _, _, _, _, _])) (by exact (rfl : _ = [_, _, _, _, _, _, _, _, _, _, _, _, _, _, _, _])) ?_
    refine RL.p T ?_
    refine RL.nil _ _ _ _ ?_
    refine hK3 _ _ _ ?_
    refine SW.sat (fun hs => ?_)
    refine SW.ret ?_
    refine retQ.rk (RVs.cN T rfl rfl rfl rfl (by exact (rfl : _ = [_, _, _, _, _, _, _, _, _, _, _, _, _, _, _, _])) (RVs.t RVs.nil)) ?_
    clear hK3 K3 hK2 K2 hK1 K1 hK0 K0
    rw [(getE_long h).1, (getE_long h).2]
    exact ⟨none, 0, 0, [_], rfl, rfl, Rd.nilS, rfl⟩
    )
 ·skip
  first
   | (exfalso; first | omega | contradiction | (simp at *; done))
   | (
    refine SW.seq_k fun K4 hK4 => ?_
    refine SW.seq_k fun K5 hK5 => ?_
    refine SW.region _ _ _ _ ?_
    refine RL.p T ?_
    refine RL.p T ?_
    refine RL.p T ?_
    refine RL.p T ?_
    refine RL.nil _ _ _ _ ?_
    refine hK5 _ _ _ ?_
    refine SW.cs (fun hc1 => ?_) (fun hc1 => ?_)
    ·skip
     first
      | (exfalso; first | omega | contradiction | (simp at *; done))
      | (
       refine SW.skip ?_
       refine hK4 _ _ _ ?_
       refine SW.cs (fun hc2 => ?_) (fun hc2 => ?_)
       ·skip
        first
         | (exfalso; first | omega | contradiction | (simp at *; done))
         | (
          refine SW.seq_k fun K6 hK6 => ?_
          refine SW.region _ _ _ _ ?_
          refine RL.q (QV.vN T rfl rfl rfl rfl rfl (by exact (rfl : _ = [_, _, _, _, _, _, _, _, _, _, _, _, _, _, _, _]))) ?_
          refine RL.s ?_
          refine NV.sN T rfl rfl rfl (by exact (rfl : _ = [_, _, _, _, _, _, _, _, _, _, _, _, _, _, _, _])) (by exact (rfl : _ = [_, _, _, _, _, _, _, _, _, _, _, _, _, _, _, _])) ?_
          refine RL.p T ?_
          refine RL.nil _ _ _ _ ?_
          refine hK6 _ _ _ ?_
          refine SW.sat (fun hs => ?_)
          refine SW.ret ?_
          refine retQ.rk (RVs.cN T rfl rfl rfl rfl (by exact (rfl : _ = [_, _, _, _, _, _, _, _, _, _, _, _, _, _, _, _])) (RVs.t RVs.nil)) ?_
          clear hK6 K6 hK5 K5 hK4 K4 hK2 K2 hK1 K1 hK0 K0
          rw [(getE_long h).1, (getE_long h).2]
          exact ⟨none, 0, 0, [_], rfl, rfl, Rd.nilS, rfl⟩
          )
       ·skip
        exfalso; first | omega | contradiction | (simp at *; done)
       )
    ·skip
     exfalso; first | omega | contradiction | (simp at *; done)
    )
theorem geteth_short {w0 : World} {H : List Chunk} (sa : Option Addr) (n c : Nat) (es : List Int) (hR : Rd w0 H sa n c 1 (es.map (.int .u8))) (hn : n = es.length) (hm : n ≤ 140737488351232) (hB : Byte es) (hl : es.length ≤ 2048) (h : es.length < 14 ∨ (wN (es.drop 12) = 33024 ∧ es.length < 18)) : SC Try.prog w0 17 #[.slice sa n c] H (fun v H' => EtV w0 H (getEr es) (getEe es) v H') := by
 refine SC.enter Try.func17 rfl (Nat.le_of_ble_eq_true rfl) ?_
 refine SW.seq_k fun K0 hK0 => ?_
 have hb := bi_rng hB
 have hl12 : (es.drop 12).length = n - 12 := by rw [List.length_drop, hn]
 have hR12 : 12 ≤ n → _ := fun h => hR.suf 12 h
 have hw := wN_rng (hB.drop 12)
 refine SW.region _ _ _ _ ?_
 refine RL.s ?_
 refine NV.alloc T rfl rfl rfl (by exact (rfl : _ = [_, _, _, _, _, _, _, _, _, _, _, _, _, _, _, _])) ?_
 intro b2_0
 refine RL.p T ?_
 refine RL.nil _ _ _ _ ?_
 refine hK0 _ _ _ ?_
 refine SW.seq_k fun K1 hK1 => ?_
 refine SW.block ?_
 refine SW.seq_k fun K2 hK2 => ?_
 refine SW.region _ _ _ _ ?_
 refine RL.p T ?_
 refine RL.p T ?_
 refine RL.p T ?_
 refine RL.p T ?_
 refine RL.nil _ _ _ _ ?_
 refine hK2 _ _ _ ?_
 refine SW.cs (fun hc0 => ?_) (fun hc0 => ?_)
 ·skip
  first
   | (exfalso; first | omega | contradiction | (simp at *; done))
   | (
    refine SW.seq_k fun K3 hK3 => ?_
    refine SW.region _ _ _ _ ?_
    refine RL.q (QV.vN T rfl rfl rfl rfl rfl (by exact (rfl : _ = [_, _, _, _, _, _, _, _, _, _, _, _, _, _, _, _]))) ?_
    refine RL.s ?_
    refine NV.sN T rfl rfl rfl (by exact (rfl : _ = [_, _, _, _, _, _, _, _, _, _, _, _, _, _, _, _])) (by exact (rfl : _ = [_, _, _, _, _, _, _, _, _, _, _, _, _, _, _, _])) ?_
    refine RL.p T ?_
    refine RL.nil _ _ _ _ ?_
    refine hK3 _ _ _ ?_
    refine SW.sat (fun hs => ?_)
    refine SW.ret ?_
    refine retQ.rk (RVs.cN T rfl rfl rfl rfl (by exact (rfl : _ = [_, _, _, _, _, _, _, _, _, _, _, _, _, _, _, _])) (RVs.t RVs.nil)) ?_
    clear hK3 K3 hK2 K2 hK1 K1 hK0 K0
    rw [(getE_short hl h).1, (getE_short hl h).2]
    exact ⟨none, 0, 0, [_], rfl, rfl, Rd.nilS, rfl⟩
    )
 ·skip
  first
   | (exfalso; first | omega | contradiction | (simp at *; done))
   | (
    refine SW.seq_k fun K4 hK4 => ?_
    refine SW.seq_k fun K5 hK5 => ?_
    refine SW.region _ _ _ _ ?_
    refine RL.p T ?_
    refine RL.p T ?_
    refine RL.p T ?_
    refine RL.p T ?_
    refine RL.nil _ _ _ _ ?_
    refine hK5 _ _ _ ?_
    refine SW.cs (fun hc1 => ?_) (fun hc1 => ?_)
    ·skip
     first
      | (exfalso; first | omega | contradiction | (simp at *; done))
      | (
       refine SW.skip ?_
       refine hK4 _ _ _ ?_
       refine SW.cs (fun hc2 => ?_) (fun hc2 => ?_)
       ·skip
        first
         | (exfalso; first | omega | contradiction | (simp at *; done))
         | (
          refine SW.seq_k fun K6 hK6 => ?_
          refine SW.region _ _ _ _ ?_
          refine RL.q (QV.vN T rfl rfl rfl rfl rfl (by exact (rfl : _ = [_, _, _, _, _, _, _, _, _, _, _, _, _, _, _, _]))) ?_
          refine RL.s ?_
          refine NV.sN T rfl rfl rfl (by exact (rfl : _ = [_, _, _, _, _, _, _, _, _, _, _, _, _, _, _, _])) (by exact (rfl : _ = [_, _, _, _, _, _, _, _, _, _, _, _, _, _, _, _])) ?_
          refine RL.p T ?_
          refine RL.nil _ _ _ _ ?_
          refine hK6 _ _ _ ?_
          refine SW.sat (fun hs => ?_)
          refine SW.ret ?_
          refine retQ.rk (RVs.cN T rfl rfl rfl rfl (by exact (rfl : _ = [_, _, _, _, _, _, _, _, _, _, _, _, _, _, _, _])) (RVs.t RVs.nil)) ?_
          clear hK6 K6 hK5 K5 hK4 K4 hK2 K2 hK1 K1 hK0 K0
          rw [(getE_short hl h).1, (getE_short hl h).2]
          exact ⟨none, 0, 0, [_], rfl, rfl, Rd.nilS, rfl⟩
          )
       ·skip
        exfalso; first | omega | contradiction | (simp at *; done)
       )
    ·skip
     first
      | (exfalso; first | omega | contradiction | (simp at *; done))
      | (
       refine SW.region _ _ _ _ ?_
       refine RL.p T ?_
       refine RL.sl T ?_ (l1 := 12)
       refine RL.c fun30 (fun hs => ((get16 _ _ _ (es.drop 12) (by repeat first | exact (hR12 (by omega)) | apply Rd.cons | apply Rd.app) hl12.symm (by omega) (hB.drop 12)).mono (fun v H' hh => (show v = .int .u16 (wN (es.drop 12)) ∧ H' = _ from hh)))) ?_
       rintro _ _ ⟨rfl, e⟩; obtain rfl := e.symm
       refine RL.p T ?_
       refine RL.p T ?_
       refine RL.join (fr1 := ?_) 3 17 true [18, 19, 20] (fun hs0 hj => ?_) ?_ ?_
       rotate_left
       ·have hs0j := hs0
        try simp only [decide_eq_true_eq, Bool.not_eq_true', decide_eq_false_iff_not, Bool.not_eq_false', Int.not_lt, Int.not_le, Int.toNat_natCast, Bool.and_eq_true, Bool.or_eq_true, Bool.and_eq_false_iff, Bool.or_eq_false_iff] at hs0
        refine RL.p T ?_
        refine RL.p T ?_
        refine RL.p T ?_
        exact hj
       ·repeat first | exact Mx.refl | exact Mx.mix | refine Mx.put rfl ?_ | refine Mx.upd rfl ?_ | refine Mx.updl rfl ?_ | refine Mx.fin rfl ?_ | refine Mx.inner rfl ?_ | refine Mx.none ?_
       refine RL.and ?_
       refine RL.p T ?_
       refine RL.nil _ _ _ _ ?_
       refine hK4 _ _ _ ?_
       refine SW.cs (fun hc3 => ?_) (fun hc3 => ?_)
       ·skip
        first
         | (exfalso; first | omega | contradiction | (simp at *; done))
         | (
          refine SW.seq_k fun K7 hK7 => ?_
          refine SW.region _ _ _ _ ?_
          refine RL.q (QV.vN T rfl rfl rfl rfl rfl (by exact (rfl : _ = [_, _, _, _, _, _, _, _, _, _, _, _, _, _, _, _]))) ?_
          refine RL.s ?_
          refine NV.sN T rfl rfl rfl (by exact (rfl : _ = [_, _, _, _, _, _, _, _, _, _, _, _, _, _, _, _])) (by exact (rfl : _ = [_, _, _, _, _, _, _, _, _, _, _, _, _, _, _, _])) ?_
          refine RL.p T ?_
          refine RL.nil _ _ _ _ ?_
          refine hK7 _ _ _ ?_
          refine SW.sat (fun hs => ?_)
          refine SW.ret ?_
          refine retQ.rk (RVs.cN T rfl rfl rfl rfl (by exact (rfl : _ = [_, _, _, _, _, _, _, _, _, _, _, _, _, _, _, _])) (RVs.t RVs.nil)) ?_
          clear hK7 K7 hK5 K5 hK4 K4 hK2 K2 hK1 K1 hK0 K0
          rw [(getE_short hl h).1, (getE_short hl h).2]
          exact ⟨none, 0, 0, [_], rfl, rfl, Rd.nilS, rfl⟩
          )
       ·skip
        exfalso; first | omega | contradiction | (simp at *; done)
       )
    )
theorem geteth_t {w0 : World} {H : List Chunk} (sa : Option Addr) (n c : Nat) (es : List Int) (hR : Rd w0 H sa n c 1 (es.map (.int .u8))) (hn : n = es.length) (hm : n ≤ 140737488351232) (hB : Byte es) (hl : es.length ≤ 2048) (h : 18 ≤ es.length) (h2 : wN (es.drop 12) = 33024) : SC Try.prog w0 17 #[.slice sa n c] H (fun v H' => EtV w0 H (getEr es) (getEe es) v H') := by
 refine SC.enter Try.func17 rfl (Nat.le_of_ble_eq_true rfl) ?_
 refine SW.seq_k fun K0 hK0 => ?_
 have hb := bi_rng hB
 have hl12 : (es.drop 12).length = n - 12 := by rw [List.length_drop, hn]
 have hR12 : 12 ≤ n → _ := fun h => hR.suf 12 h
 have hw := wN_rng (hB.drop 12)
 refine SW.region _ _ _ _ ?_
 refine RL.s ?_
 refine NV.alloc T rfl rfl rfl (by exact (rfl : _ = [_, _, _, _, _, _, _, _, _, _, _, _, _, _, _, _])) ?_
 intro b2_0
 refine RL.p T ?_
 refine RL.nil _ _ _ _ ?_
 refine hK0 _ _ _ ?_
 refine SW.seq_k fun K1 hK1 => ?_
 refine SW.block ?_
 refine SW.seq_k fun K2 hK2 => ?_
 have hS := hR.suf 12 (by omega : 12 ≤ n)
 have hS2 := hS.suf 2 (by omega)
 have hS4 := hS.suf 4 (by omega)
 have hS42 := hS4.suf 2 (by omega)
 have hl2 : ((es.drop 12).drop 2).length = n - 12 - 2 := by rw [List.length_drop, hl12]
 have hl4 : ((es.drop 12).drop 4).length = n - 12 - 4 := by rw [List.length_drop, hl12]
 have hl42 : (((es.drop 12).drop 4).drop 2).length = n - 12 - 4 - 2 := by rw [List.length_drop, hl4]
 refine SW.region _ _ _ _ ?_
 refine RL.p T ?_
 refine RL.p T ?_
 refine RL.p T ?_
 refine RL.p T ?_
 refine RL.nil _ _ _ _ ?_
 refine hK2 _ _ _ ?_
 refine SW.cs (fun hc0 => ?_) (fun hc0 => ?_)
 ·skip
  first
   | (exfalso; first | omega | contradiction | (simp at *; done))
   | (
    refine SW.seq_k fun K3 hK3 => ?_
    refine SW.region _ _ _ _ ?_
    refine RL.q (QV.vN T rfl rfl rfl rfl rfl (by exact (rfl : _ = [_, _, _, _, _, _, _, _, _, _, _, _, _, _, _, _]))) ?_
    refine RL.s ?_
    refine NV.sN T rfl rfl rfl (by exact (rfl : _ = [_, _, _, _, _, _, _, _, _, _, _, _, _, _, _, _])) (by exact (rfl : _ = [_, _, _, _, _, _, _, _, _, _, _, _, _, _, _, _])) ?_
    refine RL.p T ?_
    refine RL.nil _ _ _ _ ?_
    refine hK3 _ _ _ ?_
    refine SW.sat (fun hs => ?_)
    refine SW.ret ?_
    refine retQ.rk (RVs.cN T rfl rfl rfl rfl (by exact (rfl : _ = [_, _, _, _, _, _, _, _, _, _, _, _, _, _, _, _])) (RVs.t RVs.nil)) ?_
    clear hK3 K3 hK2 K2 hK1 K1 hK0 K0
    rw [(getE_tag hl h h2).1, (getE_tag hl h h2).2]
    exact ⟨a1, _, c1, [_, _], rfl, rfl, (Rd.rowh (satl (G := [_, _]) hs) (by repeat first | exact At.head _ _ | apply At.tail)), rfl⟩
    )
 ·skip
  first
   | (exfalso; first | omega | contradiction | (simp at *; done))
   | (
    refine SW.seq_k fun K4 hK4 => ?_
    refine SW.seq_k fun K5 hK5 => ?_
    refine SW.region _ _ _ _ ?_
    refine RL.p T ?_
    refine RL.p T ?_
    refine RL.p T ?_
    refine RL.p T ?_
    refine RL.nil _ _ _ _ ?_
    refine hK5 _ _ _ ?_
    refine SW.cs (fun hc1 => ?_) (fun hc1 => ?_)
    ·skip
     first
      | (exfalso; first | omega | contradiction | (simp at *; done))
      | (
       refine SW.skip ?_
       refine hK4 _ _ _ ?_
       refine SW.cs (fun hc2 => ?_) (fun hc2 => ?_)
       ·skip
        first
         | (exfalso; first | omega | contradiction | (simp at *; done))
         | (
          refine SW.seq_k fun K6 hK6 => ?_
          refine SW.region _ _ _ _ ?_
          refine RL.q (QV.vN T rfl rfl rfl rfl rfl (by exact (rfl : _ = [_, _, _, _, _, _, _, _, _, _, _, _, _, _, _, _]))) ?_
          refine RL.s ?_
          refine NV.sN T rfl rfl rfl (by exact (rfl : _ = [_, _, _, _, _, _, _, _, _, _, _, _, _, _, _, _])) (by exact (rfl : _ = [_, _, _, _, _, _, _, _, _, _, _, _, _, _, _, _])) ?_
          refine RL.p T ?_
          refine RL.nil _ _ _ _ ?_
          refine hK6 _ _ _ ?_
          refine SW.sat (fun hs => ?_)
          refine SW.ret ?_
          refine retQ.rk (RVs.cN T rfl rfl rfl rfl (by exact (rfl : _ = [_, _, _, _, _, _, _, _, _, _, _, _, _, _, _, _])) (RVs.t RVs.nil)) ?_
          clear hK6 K6 hK5 K5 hK4 K4 hK2 K2 hK1 K1 hK0 K0
          rw [(getE_tag hl h h2).1, (getE_tag hl h h2).2]
          exact ⟨a1, _, c1, [_, _], rfl, rfl, (Rd.rowh (satl (G := [_, _]) hs) (by repeat first | exact At.head _ _ | apply At.tail)), rfl⟩
          )
       ·skip
        first
         | (exfalso; first | omega | contradiction | (simp at *; done))
         | (
          refine SW.skip ?_
          refine hK1 _ _ _ ?_
          refine SW.seq_k fun K7 hK7 => ?_
          refine SW.region _ _ _ _ ?_
          refine RL.p T ?_
          refine RL.q (QV.slA T rfl rfl rfl rfl) ?_
          refine RL.p T ?_
          refine RL.s ?_
          refine NV.copyV (off := 0) (n := 6) (vs := [.int .u8 (bi es 0), .int .u8 (bi es 1), .int .u8 (bi es 2), .int .u8 (bi es 3), .int .u8 (bi es 4), .int .u8 (bi es 5)]) T rfl rfl rfl rfl rfl rfl rfl (by repeat first | exact At.head _ _ | apply At.tail) (by repeat first | exact hR | apply Rd.cons | apply Rd.app) (by omega) (by omega) (take6 (by omega)) rfl (by show 0 + 6 ≤ 16; omega) rfl ?_
          refine RL.nil _ _ _ _ ?_
          refine hK7 _ _ _ ?_
          refine SW.seq_k fun K8 hK8 => ?_
          refine SW.draw [(27, 0), (28, 1), (29, 2), (30, 3), (31, 4)] [[], [0], [], [2], [1, 0, 3, 2]] mixed (by kernel_rfl) (by kernel_rfl) ?_
          refine RD.p T ?_
          refine RD.q rfl rfl (Gd.none rfl) (QV.slA T rfl rfl rfl rfl) ?_
          refine RD.p T ?_
          refine RD.q rfl rfl (Gd.none rfl) (QV.sl T  (l1 := 6)) ?_
          refine RD.nv rfl rfl rfl (Gd.none rfl) ?_
          refine NV.copyV (off := 6) (n := 6) (vs := [.int .u8 (bi es 6), .int .u8 (bi es 7), .int .u8 (bi es 8), .int .u8 (bi es 9), .int .u8 (bi es 10), .int .u8 (bi es 11)]) T rfl rfl rfl rfl rfl rfl rfl (by repeat first | exact At.head _ _ | apply At.tail) (Rd.suf 6 (by repeat first | exact hR | apply Rd.cons | apply Rd.app) (by omega)) (by omega) (by omega) (take6d (by omega)) rfl (by show 6 + 6 ≤ 16; omega) rfl ?_
          refine ⟨Stab.nil, ?_⟩
          refine RD.k rfl rfl ?_
          refine hK8 _ _ _ ?_
          refine SW.seq_k fun K9 hK9 => ?_
          refine SW.region _ _ _ _ ?_
          refine RL.p T ?_
          refine RL.sl T ?_ (l1 := 12)
          refine RL.p T ?_
          refine RL.nil _ _ _ _ ?_
          refine hK9 _ _ _ ?_
          refine SW.seq_k fun K10 hK10 => ?_
          refine SW.seq_k fun K11 hK11 => ?_
          refine SW.region _ _ _ _ ?_
          refine RL.p T ?_
          refine RL.c fun30 (fun hs => ((get16 _ _ _ (es.drop 12) (by repeat first | exact hS | apply Rd.cons | apply Rd.app) hl12.symm (by omega) (hB.drop 12)).mono (fun v H' hh => (show v = .int .u16 (wN (es.drop 12)) ∧ H' = _ from hh)))) ?_
          rintro _ _ ⟨rfl, e⟩; obtain rfl := e.symm
          refine RL.p T ?_
          refine RL.nil _ _ _ _ ?_
          refine hK11 _ _ _ ?_
          refine SW.cs (fun hc3 => ?_) (fun hc3 => ?_)
          ·skip
           first
            | (exfalso; first | omega | contradiction | (simp at *; done))
            | (
             refine SW.seq_k fun K12 hK12 => ?_
             refine SW.region _ _ _ _ ?_
             refine RL.p T ?_
             refine RL.sl T ?_ (l1 := 2)
             refine RL.c fun30 (fun hs => ((get16 _ _ _ ((es.drop 12).drop 2) (by repeat first | exact hS2 | apply Rd.cons | apply Rd.app) hl2.symm (by omega) ((hB.drop 12).drop 2)).mono (fun v H' hh => (show v = .int .u16 (wN ((es.drop 12).drop 2)) ∧ H' = _ from hh)))) ?_
             rintro _ _ ⟨rfl, e⟩; obtain rfl := e.symm
             refine RL.p T ?_
             refine RL.sv1 T ?_
             refine RL.p T ?_
             refine RL.sv1 T ?_
             refine RL.nil _ _ _ _ ?_
             refine hK12 _ _ _ ?_
             refine SW.region _ _ _ _ ?_
             refine RL.p T ?_
             refine RL.sl T ?_ (l1 := 4)
             refine RL.p T ?_
             refine RL.nil _ _ _ _ ?_
             refine hK10 _ _ _ ?_
             refine SW.seq_k fun K13 hK13 => ?_
             refine SW.draw [(44, 0), (45, 1), (46, 2), (47, 3), (48, 4), (49, 5), (50, 7)] [[], [0], [], [2], [3, 2, 1, 0], [0, 1, 4, 3, 2], [5, 0, 1, 4, 3, 2], [0, 1, 2, 3, 4, 5, 6], [7, 0, 1, 2, 3, 4, 5, 6]] mixed (by kernel_rfl) (by kernel_rfl) ?_
             refine RD.p T ?_
             refine RD.p T ?_
             refine RD.q rfl rfl (Gd.none rfl) (QV.sl T  (l1 := 2)) ?_
             refine RD.nv rfl rfl rfl (Gd.none rfl) ?_
             refine NV.sat (fun hs => ?_) (fun c hc => by cases hc)
             refine NV.call rfl rfl rfl fun30 rfl rfl (((get16 _ _ _ ((es.drop 12).drop 4) (by repeat first | exact hS4 | apply Rd.cons | apply Rd.app) hl4.symm (by omega) ((hB.drop 12).drop 4)).mono (fun v H' hh => (show v = .int .u16 (wN ((es.drop 12).drop 4)) ∧ H' = _ from hh)))) ?_
             rintro _ _ ⟨rfl, e⟩; obtain rfl := e.symm
             refine ⟨(Stab.cons rfl (Gd.none rfl) (QV.sl T  (l1 := 2)) (Stab.cons rfl (Gd.none rfl) (pev_sound T rfl) Stab.nil)), ?_⟩
             refine RD.nv rfl rfl rfl (Gd.none rfl) ?_
             refine NV.sat (fun hs => ?_) (fun c hc => by cases hc)
             refine NV.call rfl rfl rfl fun31 rfl rfl (clone _ _ _ (((es.drop 12).drop 4).drop 2) (by repeat first | exact hS42 | apply Rd.cons | apply Rd.app) hl42.symm (by omega)) ?_
             rintro _ _ ⟨a1, c1, rfl, e⟩; obtain rfl := e.symm
             refine ⟨Stab.nil, ?_⟩
             refine RD.p T ?_
             refine RD.nv rfl rfl rfl (Gd.none rfl) ?_
             refine NV.s1 T ?_
             refine ⟨Stab.nil, ?_⟩
             refine RD.p T ?_
             refine RD.nv rfl rfl rfl (Gd.none rfl) ?_
             refine NV.s1 T ?_
             refine ⟨Stab.nil, ?_⟩
             refine RD.k rfl rfl ?_
             refine hK13 _ _ _ ?_
             refine SW.seq_k fun K14 hK14 => ?_
             refine SW.region _ _ _ _ ?_
             refine RL.q (QV.vN T rfl rfl rfl rfl rfl (by exact (rfl : _ = [_, _, _, _, _, _, _, _, _, _, _, _, _, _, _, _]))) ?_
             refine RL.s ?_
             refine NV.sN T rfl rfl rfl (by exact (rfl : _ = [_, _, _, _, _, _, _, _, _, _, _, _, _, _, _, _])) (by exact (rfl : _ = [_, _, _, _, _, _, _, _, _, _, _, _, _, _, _, _])) ?_
             refine RL.p T ?_
             refine RL.nil _ _ _ _ ?_
             refine hK14 _ _ _ ?_
             refine SW.sat (fun hs => ?_)
             refine SW.ret ?_
             refine retQ.rk (RVs.cN T rfl rfl rfl rfl (by exact (rfl : _ = [_, _, _, _, _, _, _, _, _, _, _, _, _, _, _, _])) (RVs.t RVs.nil)) ?_
             clear hK14 K14 hK13 K13 hK12 K12 hK11 K11 hK10 K10 hK9 K9 hK8 K8 hK7 K7 hK5 K5 hK4 K4 hK2 K2 hK1 K1 hK0 K0
             rw [(getE_tag hl h h2).1, (getE_tag hl h h2).2]
             exact ⟨a1, _, c1, [_, _], rfl, rfl, (Rd.rowh (satl (G := [_, _]) hs) (by repeat first | exact At.head _ _ | apply At.tail)), rfl⟩
             )
          ·skip
           first
            | (exfalso; first | omega | contradiction | (simp at *; done))
            | (
             refine SW.skip ?_
             refine hK10 _ _ _ ?_
             refine SW.seq_k fun K15 hK15 => ?_
             refine SW.draw [(44, 0), (45, 1), (46, 2), (47, 3), (48, 4), (49, 5), (50, 7)] [[], [0], [], [2], [3, 2, 1, 0], [0, 1, 4, 3, 2], [5, 0, 1, 4, 3, 2], [0, 1, 2, 3, 4, 5, 6], [7, 0, 1, 2, 3, 4, 5, 6]] mixed (by kernel_rfl) (by kernel_rfl) ?_
             refine RD.p T ?_
             refine RD.p T ?_
             refine RD.q rfl rfl (Gd.none rfl) (QV.sl T  (l1 := 2)) ?_
             refine RD.nv rfl rfl rfl (Gd.none rfl) ?_
             refine NV.sat (fun hs => ?_) (fun c hc => by cases hc)
             refine NV.call rfl rfl rfl fun30 rfl rfl (((get16 _ _ _ ((es.drop 12).drop 4) (by repeat first | exact hS4 | apply Rd.cons | apply Rd.app) hl4.symm (by omega) ((hB.drop 12).drop 4)).mono (fun v H' hh => (show v = .int .u16 (wN ((es.drop 12).drop 4)) ∧ H' = _ from hh)))) ?_
             rintro _ _ ⟨rfl, e⟩; obtain rfl := e.symm
             refine ⟨(Stab.cons rfl (Gd.none rfl) (QV.sl T  (l1 := 2)) (Stab.cons rfl (Gd.none rfl) (pev_sound T rfl) Stab.nil)), ?_⟩
             refine RD.nv rfl rfl rfl (Gd.none rfl) ?_
             refine NV.sat (fun hs => ?_) (fun c hc => by cases hc)
             refine NV.call rfl rfl rfl fun31 rfl rfl (clone _ _ _ (((es.drop 12).drop 4).drop 2) (by repeat first | exact hS42 | apply Rd.cons | apply Rd.app) hl42.symm (by omega)) ?_
             rintro _ _ ⟨a1, c1, rfl, e⟩; obtain rfl := e.symm
             refine ⟨Stab.nil, ?_⟩
             refine RD.p T ?_
             refine RD.nv rfl rfl rfl (Gd.none rfl) ?_
             refine NV.s1 T ?_
             refine ⟨Stab.nil, ?_⟩
             refine RD.p T ?_
             refine RD.nv rfl rfl rfl (Gd.none rfl) ?_
             refine NV.s1 T ?_
             refine ⟨Stab.nil, ?_⟩
             refine RD.k rfl rfl ?_
             refine hK15 _ _ _ ?_
             refine SW.seq_k fun K16 hK16 => ?_
             refine SW.region _ _ _ _ ?_
             refine RL.q (QV.vN T rfl rfl rfl rfl rfl (by exact (rfl : _ = [_, _, _, _, _, _, _, _, _, _, _, _, _, _, _, _]))) ?_
             refine RL.s ?_
             refine NV.sN T rfl rfl rfl (by exact (rfl : _ = [_, _, _, _, _, _, _, _, _, _, _, _, _, _, _, _])) (by exact (rfl : _ = [_, _, _, _, _, _, _, _, _, _, _, _, _, _, _, _])) ?_
             refine RL.p T ?_
             refine RL.nil _ _ _ _ ?_
             refine hK16 _ _ _ ?_
             refine SW.sat (fun hs => ?_)
             refine SW.ret ?_
             refine retQ.rk (RVs.cN T rfl rfl rfl rfl (by exact (rfl : _ = [_, _, _, _, _, _, _, _, _, _, _, _, _, _, _, _])) (RVs.t RVs.nil)) ?_
             clear hK16 K16 hK15 K15 hK11 K11 hK10 K10 hK9 K9 hK8 K8 hK7 K7 hK5 K5 hK4 K4 hK2 K2 hK1 K1 hK0 K0
             rw [(getE_tag hl h h2).1, (getE_tag hl h h2).2]
             exact ⟨a1, _, c1, [_, _], rfl, rfl, (Rd.rowh (satl (G := [_, _]) hs) (by repeat first | exact At.head _ _ | apply At.tail)), rfl⟩
             )
          )
       )
    ·skip
     first
      | (exfalso; first | omega | contradiction | (simp at *; done))
      | (
       refine SW.region _ _ _ _ ?_
       refine RL.p T ?_
       refine RL.sl T ?_ (l1 := 12)
       refine RL.c fun30 (fun hs => ((get16 _ _ _ (es.drop 12) (by repeat first | exact hS | apply Rd.cons | apply Rd.app) hl12.symm (by omega) (hB.drop 12)).mono (fun v H' hh => (show v = .int .u16 (wN (es.drop 12)) ∧ H' = _ from hh)))) ?_
       rintro _ _ ⟨rfl, e⟩; obtain rfl := e.symm
       refine RL.p T ?_
       refine RL.p T ?_
       refine RL.join (fr1 := ?_) 3 17 true [18, 19, 20] (fun hs0 hj => ?_) ?_ ?_
       rotate_left
       ·have hs0j := hs0
        try simp only [decide_eq_true_eq, Bool.not_eq_true', decide_eq_false_iff_not, Bool.not_eq_false', Int.not_lt, Int.not_le, Int.toNat_natCast, Bool.and_eq_true, Bool.or_eq_true, Bool.and_eq_false_iff, Bool.or_eq_false_iff] at hs0
        refine RL.p T ?_
        refine RL.p T ?_
        refine RL.p T ?_
        exact hj
       ·repeat first | exact Mx.refl | exact Mx.mix | refine Mx.put rfl ?_ | refine Mx.upd rfl ?_ | refine Mx.updl rfl ?_ | refine Mx.fin rfl ?_ | refine Mx.inner rfl ?_ | refine Mx.none ?_
       refine RL.and ?_
       refine RL.p T ?_
       refine RL.nil _ _ _ _ ?_
       refine hK4 _ _ _ ?_
       refine SW.cs (fun hc4 => ?_) (fun hc4 => ?_)
       ·skip
        first
         | (exfalso; first | omega | contradiction | (simp at *; done))
         | (
          refine SW.seq_k fun K17 hK17 => ?_
          refine SW.region _ _ _ _ ?_
          refine RL.q (QV.vN T rfl rfl rfl rfl rfl (by exact (rfl : _ = [_, _, _, _, _, _, _, _, _, _, _, _, _, _, _, _]))) ?_
          refine RL.s ?_
          refine NV.sN T rfl rfl rfl (by exact (rfl : _ = [_, _, _, _, _, _, _, _, _, _, _, _, _, _, _, _])) (by exact (rfl : _ = [_, _, _, _, _, _, _, _, _, _, _, _, _, _, _, _])) ?_
          refine RL.p T ?_
          refine RL.nil _ _ _ _ ?_
          refine hK17 _ _ _ ?_
          refine SW.sat (fun hs => ?_)
          refine SW.ret ?_
          refine retQ.rk (RVs.cN T rfl rfl rfl rfl (by exact (rfl : _ = [_, _, _, _, _, _, _, _, _, _, _, _, _, _, _, _])) (RVs.t RVs.nil)) ?_
          clear hK17 K17 hK5 K5 hK4 K4 hK2 K2 hK1 K1 hK0 K0
          rw [(getE_tag hl h h2).1, (getE_tag hl h h2).2]
          exact ⟨a1, _, c1, [_, _], rfl, rfl, (Rd.rowh (satl (G := [_, _]) hs) (by repeat first | exact At.head _ _ | apply At.tail)), rfl⟩
          )
       ·skip
        first
         | (exfalso; first | omega | contradiction | (simp at *; done))
         | (
          refine SW.skip ?_
          refine hK1 _ _ _ ?_
          refine SW.seq_k fun K18 hK18 => ?_
          refine SW.region _ _ _ _ ?_
          refine RL.p T ?_
          refine RL.q (QV.slA T rfl rfl rfl rfl) ?_
          refine RL.p T ?_
          refine RL.s ?_
          refine NV.copyV (off := 0) (n := 6) (vs := [.int .u8 (bi es 0), .int .u8 (bi es 1), .int .u8 (bi es 2), .int .u8 (bi es 3), .int .u8 (bi es 4), .int .u8 (bi es 5)]) T rfl rfl rfl rfl rfl rfl rfl (by repeat first | exact At.head _ _ | apply At.tail) (by repeat first | exact hR | apply Rd.cons | apply Rd.app) (by omega) (by omega) (take6 (by omega)) rfl (by show 0 + 6 ≤ 16; omega) rfl ?_
          refine RL.nil _ _ _ _ ?_
          refine hK18 _ _ _ ?_
          refine SW.seq_k fun K19 hK19 => ?_
          refine SW.draw [(27, 0), (28, 1), (29, 2), (30, 3), (31, 4)] [[], [0], [], [2], [1, 0, 3, 2]] mixed (by kernel_rfl) (by kernel_rfl) ?_
          refine RD.p T ?_
          refine RD.q rfl rfl (Gd.none rfl) (QV.slA T rfl rfl rfl rfl) ?_
          refine RD.p T ?_
          refine RD.q rfl rfl (Gd.none rfl) (QV.sl T  (l1 := 6)) ?_
          refine RD.nv rfl rfl rfl (Gd.none rfl) ?_
          refine NV.copyV (off := 6) (n := 6) (vs := [.int .u8 (bi es 6), .int .u8 (bi es 7), .int .u8 (bi es 8), .int .u8 (bi es 9), .int .u8 (bi es 10), .int .u8 (bi es 11)]) T rfl rfl rfl rfl rfl rfl rfl (by repeat first | exact At.head _ _ | apply At.tail) (Rd.suf 6 (by repeat first | exact hR | apply Rd.cons | apply Rd.app) (by omega)) (by omega) (by omega) (take6d (by omega)) rfl (by show 6 + 6 ≤ 16; omega) rfl ?_
          refine ⟨Stab.nil, ?_⟩
          refine RD.k rfl rfl ?_
          refine hK19 _ _ _ ?_
          refine SW.seq_k fun K20 hK20 => ?_
          refine SW.region _ _ _ _ ?_
          refine RL.p T ?_
          refine RL.sl T ?_ (l1 := 12)
          refine RL.p T ?_
          refine RL.nil _ _ _ _ ?_
          refine hK20 _ _ _ ?_
          refine SW.seq_k fun K21 hK21 => ?_
          refine SW.seq_k fun K22 hK22 => ?_
          refine SW.region _ _ _ _ ?_
          refine RL.p T ?_
          refine RL.c fun30 (fun hs => ((get16 _ _ _ (es.drop 12) (by repeat first | exact hS | apply Rd.cons | apply Rd.app) hl12.symm (by omega) (hB.drop 12)).mono (fun v H' hh => (show v = .int .u16 (wN (es.drop 12)) ∧ H' = _ from hh)))) ?_
          rintro _ _ ⟨rfl, e⟩; obtain rfl := e.symm
          refine RL.p T ?_
          refine RL.nil _ _ _ _ ?_
          refine hK22 _ _ _ ?_
          refine SW.cs (fun hc5 => ?_) (fun hc5 => ?_)
          ·skip
           first
            | (exfalso; first | omega | contradiction | (simp at *; done))
            | (
             refine SW.seq_k fun K23 hK23 => ?_
             refine SW.region _ _ _ _ ?_
             refine RL.p T ?_
             refine RL.sl T ?_ (l1 := 2)
             refine RL.c fun30 (fun hs => ((get16 _ _ _ ((es.drop 12).drop 2) (by repeat first | exact hS2 | apply Rd.cons | apply Rd.app) hl2.symm (by omega) ((hB.drop 12).drop 2)).mono (fun v H' hh => (show v = .int .u16 (wN ((es.drop 12).drop 2)) ∧ H' = _ from hh)))) ?_
             rintro _ _ ⟨rfl, e⟩; obtain rfl := e.symm
             refine RL.p T ?_
             refine RL.sv1 T ?_
             refine RL.p T ?_
             refine RL.sv1 T ?_
             refine RL.nil _ _ _ _ ?_
             refine hK23 _ _ _ ?_
             refine SW.region _ _ _ _ ?_
             refine RL.p T ?_
             refine RL.sl T ?_ (l1 := 4)
             refine RL.p T ?_
             refine RL.nil _ _ _ _ ?_
             refine hK21 _ _ _ ?_
             refine SW.seq_k fun K24 hK24 => ?_
             refine SW.draw [(44, 0), (45, 1), (46, 2), (47, 3), (48, 4), (49, 5), (50, 7)] [[], [0], [], [2], [3, 2, 1, 0], [0, 1, 4, 3, 2], [5, 0, 1, 4, 3, 2], [0, 1, 2, 3, 4, 5, 6], [7, 0, 1, 2, 3, 4, 5, 6]] mixed (by kernel_rfl) (by kernel_rfl) ?_
             refine RD.p T ?_
             refine RD.p T ?_
             refine RD.q rfl rfl (Gd.none rfl) (QV.sl T  (l1 := 2)) ?_
             refine RD.nv rfl rfl rfl (Gd.none rfl) ?_
             refine NV.sat (fun hs => ?_) (fun c hc => by cases hc)
             refine NV.call rfl rfl rfl fun30 rfl rfl (((get16 _ _ _ ((es.drop 12).drop 4) (by repeat first | exact hS4 | apply Rd.cons | apply Rd.app) hl4.symm (by omega) ((hB.drop 12).drop 4)).mono (fun v H' hh => (show v = .int .u16 (wN ((es.drop 12).drop 4)) ∧ H' = _ from hh)))) ?_
             rintro _ _ ⟨rfl, e⟩; obtain rfl := e.symm
             refine ⟨(Stab.cons rfl (Gd.none rfl) (QV.sl T  (l1 := 2)) (Stab.cons rfl (Gd.none rfl) (pev_sound T rfl) Stab.nil)), ?_⟩
             refine RD.nv rfl rfl rfl (Gd.none rfl) ?_
             refine NV.sat (fun hs => ?_) (fun c hc => by cases hc)
             refine NV.call rfl rfl rfl fun31 rfl rfl (clone _ _ _ (((es.drop 12).drop 4).drop 2) (by repeat first | exact hS42 | apply Rd.cons | apply Rd.app) hl42.symm (by omega)) ?_
             rintro _ _ ⟨a1, c1, rfl, e⟩; obtain rfl := e.symm
             refine ⟨Stab.nil, ?_⟩
             refine RD.p T ?_
             refine RD.nv rfl rfl rfl (Gd.none rfl) ?_
             refine NV.s1 T ?_
             refine ⟨Stab.nil, ?_⟩
             refine RD.p T ?_
             refine RD.nv rfl rfl rfl (Gd.none rfl) ?_
             refine NV.s1 T ?_
             refine ⟨Stab.nil, ?_⟩
             refine RD.k rfl rfl ?_
             refine hK24 _ _ _ ?_
             refine SW.seq_k fun K25 hK25 => ?_
             refine SW.region _ _ _ _ ?_
             refine RL.q (QV.vN T rfl rfl rfl rfl rfl (by exact (rfl : _ = [_, _, _, _, _, _, _, _, _, _, _, _, _, _, _, _]))) ?_
             refine RL.s ?_
             refine NV.sN T rfl rfl rfl (by exact (rfl : _ = [_, _, _, _, _, _, _, _, _, _, _, _, _, _, _, _])) (by exact (rfl : _ = [_, _, _, _, _, _, _, _, _, _, _, _, _, _, _, _])) ?_
             refine RL.p T ?_
             refine RL.nil _ _ _ _ ?_
             refine hK25 _ _ _ ?_
             refine SW.sat (fun hs => ?_)
             refine SW.ret ?_
             refine retQ.rk (RVs.cN T rfl rfl rfl rfl (by exact (rfl : _ = [_, _, _, _, _, _, _, _, _, _, _, _, _, _, _, _])) (RVs.t RVs.nil)) ?_
             clear hK25 K25 hK24 K24 hK23 K23 hK22 K22 hK21 K21 hK20 K20 hK19 K19 hK18 K18 hK5 K5 hK4 K4 hK2 K2 hK1 K1 hK0 K0
             rw [(getE_tag hl h h2).1, (getE_tag hl h h2).2]
             exact ⟨a1, _, c1, [_, _], rfl, rfl, (Rd.rowh (satl (G := [_, _]) hs) (by repeat first | exact At.head _ _ | apply At.tail)), rfl⟩
             )
          ·skip
           first
            | (exfalso; first | omega | contradiction | (simp at *; done))
            | (
             refine SW.skip ?_
             refine hK21 _ _ _ ?_
             refine SW.seq_k fun K26 hK26 => ?_
             refine SW.draw [(44, 0), (45, 1), (46, 2), (47, 3), (48, 4), (49, 5), (50, 7)] [[], [0], [], [2], [3, 2, 1, 0], [0, 1, 4, 3, 2], [5, 0, 1, 4, 3, 2], [0, 1, 2, 3, 4, 5, 6], [7, 0, 1, 2, 3, 4, 5, 6]] mixed (by kernel_rfl) (by kernel_rfl) ?_
             refine RD.p T ?_
             refine RD.p T ?_
             refine RD.q rfl rfl (Gd.none rfl) (QV.sl T  (l1 := 2)) ?_
             refine RD.nv rfl rfl rfl (Gd.none rfl) ?_
             refine NV.sat (fun hs => ?_) (fun c hc => by cases hc)
             refine NV.call rfl rfl rfl fun30 rfl rfl (((get16 _ _ _ ((es.drop 12).drop 4) (by repeat first | exact hS4 | apply Rd.cons | apply Rd.app) hl4.symm (by omega) ((hB.drop 12).drop 4)).mono (fun v H' hh => (show v = .int .u16 (wN ((es.drop 12).drop 4)) ∧ H' = _ from hh)))) ?_
             rintro _ _ ⟨rfl, e⟩; obtain rfl := e.symm
             refine ⟨(Stab.cons rfl (Gd.none rfl) (QV.sl T  (l1 := 2)) (Stab.cons rfl (Gd.none rfl) (pev_sound T rfl) Stab.nil)), ?_⟩
             refine RD.nv rfl rfl rfl (Gd.none rfl) ?_
             refine NV.sat (fun hs => ?_) (fun c hc => by cases hc)
             refine NV.call rfl rfl rfl fun31 rfl rfl (clone _ _ _ (((es.drop 12).drop 4).drop 2) (by repeat first | exact hS42 | apply Rd.cons | apply Rd.app) hl42.symm (by omega)) ?_
             rintro _ _ ⟨a1, c1, rfl, e⟩; obtain rfl := e.symm
             refine ⟨Stab.nil, ?_⟩
             refine RD.p T ?_
             refine RD.nv rfl rfl rfl (Gd.none rfl) ?_
             refine NV.s1 T ?_
             refine ⟨Stab.nil, ?_⟩
             refine RD.p T ?_
             refine RD.nv rfl rfl rfl (Gd.none rfl) ?_
             refine NV.s1 T ?_
             refine ⟨Stab.nil, ?_⟩
             refine RD.k rfl rfl ?_
             refine hK26 _ _ _ ?_
             refine SW.seq_k fun K27 hK27 => ?_
             refine SW.region _ _ _ _ ?_
             refine RL.q (QV.vN T rfl rfl rfl rfl rfl (by exact (rfl : _ = [_, _, _, _, _, _, _, _, _, _, _, _, _, _, _, _]))) ?_
             refine RL.s ?_
             refine NV.sN T rfl rfl rfl (by exact (rfl : _ = [_, _, _, _, _, _, _, _, _, _, _, _, _, _, _, _])) (by exact (rfl : _ = [_, _, _, _, _, _, _, _, _, _, _, _, _, _, _, _])) ?_
             refine RL.p T ?_
             refine RL.nil _ _ _ _ ?_
             refine hK27 _ _ _ ?_
             refine SW.sat (fun hs => ?_)
             refine SW.ret ?_
             refine retQ.rk (RVs.cN T rfl rfl rfl rfl (by exact (rfl : _ = [_, _, _, _, _, _, _, _, _, _, _, _, _, _, _, _])) (RVs.t RVs.nil)) ?_
             clear hK27 K27 hK26 K26 hK22 K22 hK21 K21 hK20 K20 hK19 K19 hK18 K18 hK5 K5 hK4 K4 hK2 K2 hK1 K1 hK0 K0
             rw [(getE_tag hl h h2).1, (getE_tag hl h h2).2]
             exact ⟨a1, _, c1, [_, _], rfl, rfl, (Rd.rowh (satl (G := [_, _]) hs) (by repeat first | exact At.head _ _ | apply At.tail)), rfl⟩
             )
          )
       )
    )
theorem geteth_f {w0 : World} {H : List Chunk} (sa : Option Addr) (n c : Nat) (es : List Int) (hR : Rd w0 H sa n c 1 (es.map (.int .u8))) (hn : n = es.length) (hm : n ≤ 140737488351232) (hB : Byte es) (hl : es.length ≤ 2048) (h : 14 ≤ es.length) (h2 : ¬ wN (es.drop 12) = 33024) : SC Try.prog w0 17 #[.slice sa n c] H (fun v H' => EtV w0 H (getEr es) (getEe es) v H') := by
 refine SC.enter Try.func17 rfl (Nat.le_of_ble_eq_true rfl) ?_
 refine SW.seq_k fun K0 hK0 => ?_
 have hb := bi_rng hB
 have hl12 : (es.drop 12).length = n - 12 := by rw [List.length_drop, hn]
 have hR12 : 12 ≤ n → _ := fun h => hR.suf 12 h
 have hw := wN_rng (hB.drop 12)
 refine SW.region _ _ _ _ ?_
 refine RL.s ?_
 refine NV.alloc T rfl rfl rfl (by exact (rfl : _ = [_, _, _, _, _, _, _, _, _, _, _, _, _, _, _, _])) ?_
 intro b2_0
 refine RL.p T ?_
 refine RL.nil _ _ _ _ ?_
 refine hK0 _ _ _ ?_
 refine SW.seq_k fun K1 hK1 => ?_
 refine SW.block ?_
 refine SW.seq_k fun K2 hK2 => ?_
 have hS := hR.suf 12 (by omega : 12 ≤ n)
 have hS2 := hS.suf 2 (by omega)
 have hl2 : ((es.drop 12).drop 2).length = n - 12 - 2 := by rw [List.length_drop, hl12]
 refine SW.region _ _ _ _ ?_
 refine RL.p T ?_
 refine RL.p T ?_
 refine RL.p T ?_
 refine RL.p T ?_
 refine RL.nil _ _ _ _ ?_
 refine hK2 _ _ _ ?_
 refine SW.cs (fun hc0 => ?_) (fun hc0 => ?_)
 ·skip
  first
   | (exfalso; first | omega | contradiction | (simp at *; done))
   | (
    refine SW.seq_k fun K3 hK3 => ?_
    refine SW.region _ _ _ _ ?_
    refine RL.q (QV.vN T rfl rfl rfl rfl rfl (by exact (rfl : _ = [_, _, _, _, _, _, _, _, _, _, _, _, _, _, _, _]))) ?_
    refine RL.s ?_
    refine NV.sN T rfl rfl rfl (by exact (rfl : _ = [_, _, _, _, _, _, _, _, _, _, _, _, _, _, _, _])) (by exact (rfl : _ = [_, _, _, _, _, _, _, _, _, _, _, _, _, _, _, _])) ?_
    refine RL.p T ?_
    refine RL.nil _ _ _ _ ?_
    refine hK3 _ _ _ ?_
    refine SW.sat (fun hs => ?_)
    refine SW.ret ?_
    refine retQ.rk (RVs.cN T rfl rfl rfl rfl (by exact (rfl : _ = [_, _, _, _, _, _, _, _, _, _, _, _, _, _, _, _])) (RVs.t RVs.nil)) ?_
    clear hK3 K3 hK2 K2 hK1 K1 hK0 K0
    rw [(getE_bare hl h h2).1, (getE_bare hl h h2).2]
    exact ⟨a1, _, c1, [_, _], rfl, rfl, (Rd.rowh (satl (G := [_, _]) hs) (by repeat first | exact At.head _ _ | apply At.tail)), rfl⟩
    )
 ·skip
  first
   | (exfalso; first | omega | contradiction | (simp at *; done))
   | (
    refine SW.seq_k fun K4 hK4 => ?_
    refine SW.seq_k fun K5 hK5 => ?_
    refine SW.region _ _ _ _ ?_
    refine RL.p T ?_
    refine RL.p T ?_
    refine RL.p T ?_
    refine RL.p T ?_
    refine RL.nil _ _ _ _ ?_
    refine hK5 _ _ _ ?_
    refine SW.cs (fun hc1 => ?_) (fun hc1 => ?_)
    ·skip
     first
      | (exfalso; first | omega | contradiction | (simp at *; done))
      | (
       refine SW.skip ?_
       refine hK4 _ _ _ ?_
       refine SW.cs (fun hc2 => ?_) (fun hc2 => ?_)
       ·skip
        first
         | (exfalso; first | omega | contradiction | (simp at *; done))
         | (
          refine SW.seq_k fun K6 hK6 => ?_
          refine SW.region _ _ _ _ ?_
          refine RL.q (QV.vN T rfl rfl rfl rfl rfl (by exact (rfl : _ = [_, _, _, _, _, _, _, _, _, _, _, _, _, _, _, _]))) ?_
          refine RL.s ?_
          refine NV.sN T rfl rfl rfl (by exact (rfl : _ = [_, _, _, _, _, _, _, _, _, _, _, _, _, _, _, _])) (by exact (rfl : _ = [_, _, _, _, _, _, _, _, _, _, _, _, _, _, _, _])) ?_
          refine RL.p T ?_
          refine RL.nil _ _ _ _ ?_
          refine hK6 _ _ _ ?_
          refine SW.sat (fun hs => ?_)
          refine SW.ret ?_
          refine retQ.rk (RVs.cN T rfl rfl rfl rfl (by exact (rfl : _ = [_, _, _, _, _, _, _, _, _, _, _, _, _, _, _, _])) (RVs.t RVs.nil)) ?_
          clear hK6 K6 hK5 K5 hK4 K4 hK2 K2 hK1 K1 hK0 K0
          rw [(getE_bare hl h h2).1, (getE_bare hl h h2).2]
          exact ⟨a1, _, c1, [_, _], rfl, rfl, (Rd.rowh (satl (G := [_, _]) hs) (by repeat first | exact At.head _ _ | apply At.tail)), rfl⟩
          )
       ·skip
        first
         | (exfalso; first | omega | contradiction | (simp at *; done))
         | (
          refine SW.skip ?_
          refine hK1 _ _ _ ?_
          refine SW.seq_k fun K7 hK7 => ?_
          refine SW.region _ _ _ _ ?_
          refine RL.p T ?_
          refine RL.q (QV.slA T rfl rfl rfl rfl) ?_
          refine RL.p T ?_
          refine RL.s ?_
          refine NV.copyV (off := 0) (n := 6) (vs := [.int .u8 (bi es 0), .int .u8 (bi es 1), .int .u8 (bi es 2), .int .u8 (bi es 3), .int .u8 (bi es 4), .int .u8 (bi es 5)]) T rfl rfl rfl rfl rfl rfl rfl (by repeat first | exact At.head _ _ | apply At.tail) (by repeat first | exact hR | apply Rd.cons | apply Rd.app) (by omega) (by omega) (take6 (by omega)) rfl (by show 0 + 6 ≤ 16; omega) rfl ?_
          refine RL.nil _ _ _ _ ?_
          refine hK7 _ _ _ ?_
          refine SW.seq_k fun K8 hK8 => ?_
          refine SW.draw [(27, 0), (28, 1), (29, 2), (30, 3), (31, 4)] [[], [0], [], [2], [1, 0, 3, 2]] mixed (by kernel_rfl) (by kernel_rfl) ?_
          refine RD.p T ?_
          refine RD.q rfl rfl (Gd.none rfl) (QV.slA T rfl rfl rfl rfl) ?_
          refine RD.p T ?_
          refine RD.q rfl rfl (Gd.none rfl) (QV.sl T  (l1 := 6)) ?_
          refine RD.nv rfl rfl rfl (Gd.none rfl) ?_
          refine NV.copyV (off := 6) (n := 6) (vs := [.int .u8 (bi es 6), .int .u8 (bi es 7), .int .u8 (bi es 8), .int .u8 (bi es 9), .int .u8 (bi es 10), .int .u8 (bi es 11)]) T rfl rfl rfl rfl rfl rfl rfl (by repeat first | exact At.head _ _ | apply At.tail) (Rd.suf 6 (by repeat first | exact hR | apply Rd.cons | apply Rd.app) (by omega)) (by omega) (by omega) (take6d (by omega)) rfl (by show 6 + 6 ≤ 16; omega) rfl ?_
          refine ⟨Stab.nil, ?_⟩
          refine RD.k rfl rfl ?_
          refine hK8 _ _ _ ?_
          refine SW.seq_k fun K9 hK9 => ?_
          refine SW.region _ _ _ _ ?_
          refine RL.p T ?_
          refine RL.sl T ?_ (l1 := 12)
          refine RL.p T ?_
          refine RL.nil _ _ _ _ ?_
          refine hK9 _ _ _ ?_
          refine SW.seq_k fun K10 hK10 => ?_
          refine SW.seq_k fun K11 hK11 => ?_
          refine SW.region _ _ _ _ ?_
          refine RL.p T ?_
          refine RL.c fun30 (fun hs => ((get16 _ _ _ (es.drop 12) (by repeat first | exact hS | apply Rd.cons | apply Rd.app) hl12.symm (by omega) (hB.drop 12)).mono (fun v H' hh => (show v = .int .u16 (wN (es.drop 12)) ∧ H' = _ from hh)))) ?_
          rintro _ _ ⟨rfl, e⟩; obtain rfl := e.symm
          refine RL.p T ?_
          refine RL.nil _ _ _ _ ?_
          refine hK11 _ _ _ ?_
          refine SW.cs (fun hc3 => ?_) (fun hc3 => ?_)
          ·skip
           exfalso; first | omega | contradiction | (simp at *; done)
          ·skip
           first
            | (exfalso; first | omega | contradiction | (simp at *; done))
            | (
             refine SW.skip ?_
             refine hK10 _ _ _ ?_
             refine SW.seq_k fun K12 hK12 => ?_
             refine SW.draw [(44, 0), (45, 1), (46, 2), (47, 3), (48, 4), (49, 5), (50, 7)] [[], [0], [], [2], [3, 2, 1, 0], [0, 1, 4, 3, 2], [5, 0, 1, 4, 3, 2], [0, 1, 2, 3, 4, 5, 6], [7, 0, 1, 2, 3, 4, 5, 6]] mixed (by kernel_rfl) (by kernel_rfl) ?_
             refine RD.p T ?_
             refine RD.p T ?_
             refine RD.q rfl rfl (Gd.none rfl) (QV.sl T  (l1 := 2)) ?_
             refine RD.nv rfl rfl rfl (Gd.none rfl) ?_
             refine NV.sat (fun hs => ?_) (fun c hc => by cases hc)
             refine NV.call rfl rfl rfl fun30 rfl rfl (((get16 _ _ _ (es.drop 12) (by repeat first | exact hS | apply Rd.cons | apply Rd.app) hl12.symm (by omega) (hB.drop 12)).mono (fun v H' hh => (show v = .int .u16 (wN (es.drop 12)) ∧ H' = _ from hh)))) ?_
             rintro _ _ ⟨rfl, e⟩; obtain rfl := e.symm
             refine ⟨(Stab.cons rfl (Gd.none rfl) (QV.sl T  (l1 := 2)) (Stab.cons rfl (Gd.none rfl) (pev_sound T rfl) Stab.nil)), ?_⟩
             refine RD.nv rfl rfl rfl (Gd.none rfl) ?_
             refine NV.sat (fun hs => ?_) (fun c hc => by cases hc)
             refine NV.call rfl rfl rfl fun31 rfl rfl (clone _ _ _ ((es.drop 12).drop 2) (by repeat first | exact hS2 | apply Rd.cons | apply Rd.app) hl2.symm (by omega)) ?_
             rintro _ _ ⟨a1, c1, rfl, e⟩; obtain rfl := e.symm
             refine ⟨Stab.nil, ?_⟩
             refine RD.p T ?_
             refine RD.nv rfl rfl rfl (Gd.none rfl) ?_
             refine NV.s1 T ?_
             refine ⟨Stab.nil, ?_⟩
             refine RD.p T ?_
             refine RD.nv rfl rfl rfl (Gd.none rfl) ?_
             refine NV.s1 T ?_
             refine ⟨Stab.nil, ?_⟩
             refine RD.k rfl rfl ?_
             refine hK12 _ _ _ ?_
             refine SW.seq_k fun K13 hK13 => ?_
             refine SW.region _ _ _ _ ?_
             refine RL.q (QV.vN T rfl rfl rfl rfl rfl (by exact (rfl : _ = [_, _, _, _, _, _, _, _, _, _, _, _, _, _, _, _]))) ?_
             refine RL.s ?_
             refine NV.sN T rfl rfl rfl (by exact (rfl : _ = [_, _, _, _, _, _, _, _, _, _, _, _, _, _, _, _])) (by exact (rfl : _ = [_, _, _, _, _, _, _, _, _, _, _, _, _, _, _, _])) ?_
             refine RL.p T ?_
             refine RL.nil _ _ _ _ ?_
             refine hK13 _ _ _ ?_
             refine SW.sat (fun hs => ?_)
             refine SW.ret ?_
             refine retQ.rk (RVs.cN T rfl rfl rfl rfl (by exact (rfl : _ = [_, _, _, _, _, _, _, _, _, _, _, _, _, _, _, _])) (RVs.t RVs.nil)) ?_
             clear hK13 K13 hK12 K12 hK11 K11 hK10 K10 hK9 K9 hK8 K8 hK7 K7 hK5 K5 hK4 K4 hK2 K2 hK1 K1 hK0 K0
             rw [(getE_bare hl h h2).1, (getE_bare hl h h2).2]
             exact ⟨a1, _, c1, [_, _], rfl, rfl, (Rd.rowh (satl (G := [_, _]) hs) (by repeat first | exact At.head _ _ | apply At.tail)), rfl⟩
             )
          )
       )
    ·skip
     first
      | (exfalso; first | omega | contradiction | (simp at *; done))
      | (
       refine SW.region _ _ _ _ ?_
       refine RL.p T ?_
       refine RL.sl T ?_ (l1 := 12)
       refine RL.c fun30 (fun hs => ((get16 _ _ _ (es.drop 12) (by repeat first | exact hS | apply Rd.cons | apply Rd.app) hl12.symm (by omega) (hB.drop 12)).mono (fun v H' hh => (show v = .int .u16 (wN (es.drop 12)) ∧ H' = _ from hh)))) ?_
       rintro _ _ ⟨rfl, e⟩; obtain rfl := e.symm
       refine RL.p T ?_
       refine RL.p T ?_
       refine RL.join (fr1 := ?_) 3 17 true [18, 19, 20] (fun hs0 hj => ?_) ?_ ?_
       rotate_left
       ·have hs0j := hs0
        try simp only [decide_eq_true_eq, Bool.not_eq_true', decide_eq_false_iff_not, Bool.not_eq_false', Int.not_lt, Int.not_le, Int.toNat_natCast, Bool.and_eq_true, Bool.or_eq_true, Bool.and_eq_false_iff, Bool.or_eq_false_iff] at hs0
        refine RL.p T ?_
        refine RL.p T ?_
        refine RL.p T ?_
        exact hj
       ·repeat first | exact Mx.refl | exact Mx.mix | refine Mx.put rfl ?_ | refine Mx.upd rfl ?_ | refine Mx.updl rfl ?_ | refine Mx.fin rfl ?_ | refine Mx.inner rfl ?_ | refine Mx.none ?_
       refine RL.and ?_
       refine RL.p T ?_
       refine RL.nil _ _ _ _ ?_
       refine hK4 _ _ _ ?_
       refine SW.cs (fun hc4 => ?_) (fun hc4 => ?_)
       ·skip
        first
         | (exfalso; first | omega | contradiction | (simp at *; done))
         | (
          refine SW.seq_k fun K14 hK14 => ?_
          refine SW.region _ _ _ _ ?_
          refine RL.q (QV.vN T rfl rfl rfl rfl rfl (by exact (rfl : _ = [_, _, _, _, _, _, _, _, _, _, _, _, _, _, _, _]))) ?_
          refine RL.s ?_
          refine NV.sN T rfl rfl rfl (by exact (rfl : _ = [_, _, _, _, _, _, _, _, _, _, _, _, _, _, _, _])) (by exact (rfl : _ = [_, _, _, _, _, _, _, _, _, _, _, _, _, _, _, _])) ?_
          refine RL.p T ?_
          refine RL.nil _ _ _ _ ?_
          refine hK14 _ _ _ ?_
          refine SW.sat (fun hs => ?_)
          refine SW.ret ?_
          refine retQ.rk (RVs.cN T rfl rfl rfl rfl (by exact (rfl : _ = [_, _, _, _, _, _, _, _, _, _, _, _, _, _, _, _])) (RVs.t RVs.nil)) ?_
          clear hK14 K14 hK5 K5 hK4 K4 hK2 K2 hK1 K1 hK0 K0
          rw [(getE_bare hl h h2).1, (getE_bare hl h h2).2]
          exact ⟨a1, _, c1, [_, _], rfl, rfl, (Rd.rowh (satl (G := [_, _]) hs) (by repeat first | exact At.head _ _ | apply At.tail)), rfl⟩
          )
       ·skip
        first
         | (exfalso; first | omega | contradiction | (simp at *; done))
         | (
          refine SW.skip ?_
          refine hK1 _ _ _ ?_
          refine SW.seq_k fun K15 hK15 => ?_
          refine SW.region _ _ _ _ ?_
          refine RL.p T ?_
          refine RL.q (QV.slA T rfl rfl rfl rfl) ?_
          refine RL.p T ?_
          refine RL.s ?_
          refine NV.copyV (off := 0) (n := 6) (vs := [.int .u8 (bi es 0), .int .u8 (bi es 1), .int .u8 (bi es 2), .int .u8 (bi es 3), .int .u8 (bi es 4), .int .u8 (bi es 5)]) T rfl rfl rfl rfl rfl rfl rfl (by repeat first | exact At.head _ _ | apply At.tail) (by repeat first | exact hR | apply Rd.cons | apply Rd.app) (by omega) (by omega) (take6 (by omega)) rfl (by show 0 + 6 ≤ 16; omega) rfl ?_
          refine RL.nil _ _ _ _ ?_
          refine hK15 _ _ _ ?_
          refine SW.seq_k fun K16 hK16 => ?_
          refine SW.draw [(27, 0), (28, 1), (29, 2), (30, 3), (31, 4)] [[], [0], [], [2], [1, 0, 3, 2]] mixed (by kernel_rfl) (by kernel_rfl) ?_
          refine RD.p T ?_
          refine RD.q rfl rfl (Gd.none rfl) (QV.slA T rfl rfl rfl rfl) ?_
          refine RD.p T ?_
          refine RD.q rfl rfl (Gd.none rfl) (QV.sl T  (l1 := 6)) ?_
          refine RD.nv rfl rfl rfl (Gd.none rfl) ?_
          refine NV.copyV (off := 6) (n := 6) (vs := [.int .u8 (bi es 6), .int .u8 (bi es 7), .int .u8 (bi es 8), .int .u8 (bi es 9), .int .u8 (bi es 10), .int .u8 (bi es 11)]) T rfl rfl rfl rfl rfl rfl rfl (by repeat first | exact At.head _ _ | apply At.tail) (Rd.suf 6 (by repeat first | exact hR | apply Rd.cons | apply Rd.app) (by omega)) (by omega) (by omega) (take6d (by omega)) rfl (by show 6 + 6 ≤ 16; omega) rfl ?_
          refine ⟨Stab.nil, ?_⟩
          refine RD.k rfl rfl ?_
          refine hK16 _ _ _ ?_
          refine SW.seq_k fun K17 hK17 => ?_
          refine SW.region _ _ _ _ ?_
          refine RL.p T ?_
          refine RL.sl T ?_ (l1 := 12)
          refine RL.p T ?_
          refine RL.nil _ _ _ _ ?_
          refine hK17 _ _ _ ?_
          refine SW.seq_k fun K18 hK18 => ?_
          refine SW.seq_k fun K19 hK19 => ?_
          refine SW.region _ _ _ _ ?_
          refine RL.p T ?_
          refine RL.c fun30 (fun hs => ((get16 _ _ _ (es.drop 12) (by repeat first | exact hS | apply Rd.cons | apply Rd.app) hl12.symm (by omega) (hB.drop 12)).mono (fun v H' hh => (show v = .int .u16 (wN (es.drop 12)) ∧ H' = _ from hh)))) ?_
          rintro _ _ ⟨rfl, e⟩; obtain rfl := e.symm
          refine RL.p T ?_
          refine RL.nil _ _ _ _ ?_
          refine hK19 _ _ _ ?_
          refine SW.cs (fun hc5 => ?_) (fun hc5 => ?_)
          ·skip
           exfalso; first | omega | contradiction | (simp at *; done)
          ·skip
           first
            | (exfalso; first | omega | contradiction | (simp at *; done))
            | (
             refine SW.skip ?_
             refine hK18 _ _ _ ?_
             refine SW.seq_k fun K20 hK20 => ?_
             refine SW.draw [(44, 0), (45, 1), (46, 2), (47, 3), (48, 4), (49, 5), (50, 7)] [[], [0], [], [2], [3, 2, 1, 0], [0, 1, 4, 3, 2], [5, 0, 1, 4, 3, 2], [0, 1, 2, 3, 4, 5, 6], [7, 0, 1, 2, 3, 4, 5, 6]] mixed (by kernel_rfl) (by kernel_rfl) ?_
             refine RD.p T ?_
             refine RD.p T ?_
             refine RD.q rfl rfl (Gd.none rfl) (QV.sl T  (l1 := 2)) ?_
             refine RD.nv rfl rfl rfl (Gd.none rfl) ?_
             refine NV.sat (fun hs => ?_) (fun c hc => by cases hc)
             refine NV.call rfl rfl rfl fun30 rfl rfl (((get16 _ _ _ (es.drop 12) (by repeat first | exact hS | apply Rd.cons | apply Rd.app) hl12.symm (by omega) (hB.drop 12)).mono (fun v H' hh => (show v = .int .u16 (wN (es.drop 12)) ∧ H' = _ from hh)))) ?_
             rintro _ _ ⟨rfl, e⟩; obtain rfl := e.symm
             refine ⟨(Stab.cons rfl (Gd.none rfl) (QV.sl T  (l1 := 2)) (Stab.cons rfl (Gd.none rfl) (pev_sound T rfl) Stab.nil)), ?_⟩
             refine RD.nv rfl rfl rfl (Gd.none rfl) ?_
             refine NV.sat (fun hs => ?_) (fun c hc => by cases hc)
             refine NV.call rfl rfl rfl fun31 rfl rfl (clone _ _ _ ((es.drop 12).drop 2) (by repeat first | exact hS2 | apply Rd.cons | apply Rd.app) hl2.symm (by omega)) ?_
             rintro _ _ ⟨a1, c1, rfl, e⟩; obtain rfl := e.symm
             refine ⟨Stab.nil, ?_⟩
             refine RD.p T ?_
             refine RD.nv rfl rfl rfl (Gd.none rfl) ?_
             refine NV.s1 T ?_
             refine ⟨Stab.nil, ?_⟩
             refine RD.p T ?_
             refine RD.nv rfl rfl rfl (Gd.none rfl) ?_
             refine NV.s1 T ?_
             refine ⟨Stab.nil, ?_⟩
             refine RD.k rfl rfl ?_
             refine hK20 _ _ _ ?_
             refine SW.seq_k fun K21 hK21 => ?_
             refine SW.region _ _ _ _ ?_
             refine RL.q (QV.vN T rfl rfl rfl rfl rfl (by exact (rfl : _ = [_, _, _, _, _, _, _, _, _, _, _, _, _, _, _, _]))) ?_
             refine RL.s ?_
             refine NV.sN T rfl rfl rfl (by exact (rfl : _ = [_, _, _, _, _, _, _, _, _, _, _, _, _, _, _, _])) (by exact (rfl : _ = [_, _, _, _, _, _, _, _, _, _, _, _, _, _, _, _])) ?_
             refine RL.p T ?_
             refine RL.nil _ _ _ _ ?_
             refine hK21 _ _ _ ?_
             refine SW.sat (fun hs => ?_)
             refine SW.ret ?_
             refine retQ.rk (RVs.cN T rfl rfl rfl rfl (by exact (rfl : _ = [_, _, _, _, _, _, _, _, _, _, _, _, _, _, _, _])) (RVs.t RVs.nil)) ?_
             clear hK21 K21 hK20 K20 hK19 K19 hK18 K18 hK17 K17 hK16 K16 hK15 K15 hK5 K5 hK4 K4 hK2 K2 hK1 K1 hK0 K0
             rw [(getE_bare hl h h2).1, (getE_bare hl h h2).2]
             exact ⟨a1, _, c1, [_, _], rfl, rfl, (Rd.rowh (satl (G := [_, _]) hs) (by repeat first | exact At.head _ _ | apply At.tail)), rfl⟩
             )
          )
       )
    )
theorem geteth {w0 : World} {H : List Chunk} (sa : Option Addr) (n c : Nat) (es : List Int) (hR : Rd w0 H sa n c 1 (es.map (.int .u8))) (hn : n = es.length) (hm : n ≤ 140737488351232) (hB : Byte es) : SC Try.prog w0 17 #[.slice sa n c] H (EtV w0 H (getEr es) (getEe es)) := by
  by_cases h1 : 2048 < es.length
  · exact geteth_long sa n c es hR hn hm hB h1
  · by_cases h2 : es.length < 14 ∨ (wN (es.drop 12) = 33024 ∧ es.length < 18)
    · exact geteth_short sa n c es hR hn hm hB (by omega) h2
    · by_cases h3 : wN (es.drop 12) = 33024
      · exact geteth_t sa n c es hR hn hm hB (by omega) (by omega) h3
      · exact geteth_f sa n c es hR hn hm hB (by omega) (by omega) h3
theorem esame {w0 : World} {H : List Chunk} (x : Eth) (saa : Option Addr) (na ca : Nat) (hRa : Rd w0 H saa na ca 1 (x.data.map (.int .u8))) (hna : na = x.data.length) (hma : na ≤ 140737488351232) (y : Eth) (sab : Option Addr) (nb cb : Nat) (hRb : Rd w0 H sab nb cb 1 (y.data.map (.int .u8))) (hnb : nb = y.data.length) (hmb : nb ≤ 140737488351232) : SC Try.prog w0 19 #[EA x saa na ca, EA y sab nb cb] H (fun v H' => v = .bool (sameE x y) ∧ H' = H) := by
 refine SC.enter Try.func19 rfl (Nat.le_of_ble_eq_true rfl) ?_
 refine SW.seq_k fun K0 hK0 => ?_
 refine SW.region _ _ _ _ ?_
 refine RL.s ?_
 refine NV.box rfl (by exact (rfl : _ = [_, _, _, _, _, _, _, _, _, _, _, _, _, _, _, _])) ?_
 intro b2_0
 refine RL.s ?_
 refine NV.box rfl (by exact (rfl : _ = [_, _, _, _, _, _, _, _, _, _, _, _, _, _, _, _])) ?_
 intro b3_1
 refine RL.p T ?_
 refine RL.nil _ _ _ _ ?_
 refine hK0 _ _ _ ?_
 refine SW.seq_k fun K1 hK1 => ?_
 refine SW.region _ _ _ _ ?_
 refine RL.p T ?_
 refine RL.q (QV.vN T rfl rfl rfl rfl rfl (by exact (rfl : _ = [_, _, _, _, _, _]))) ?_
 refine RL.p T ?_
 refine RL.q (QV.vN T rfl rfl rfl rfl rfl (by exact (rfl : _ = [_, _, _, _, _, _]))) ?_
 refine RL.s ?_
 refine NV.eqd T PL rfl rfl rfl Try.eqGuardType35 rfl ?_
 refine RL.p T ?_
 refine RL.join (fr1 := ?_) 5 10 true [11, 12, 13, 14, 15] (fun hs0 hj => ?_) ?_ ?_
 rotate_left
 ·have hs0j := hs0
  try simp only [decide_eq_true_eq, Bool.not_eq_true', decide_eq_false_iff_not, Bool.not_eq_false', Int.not_lt, Int.not_le, Int.toNat_natCast, Bool.and_eq_true, Bool.or_eq_true, Bool.and_eq_false_iff, Bool.or_eq_false_iff] at hs0
  refine RL.p T ?_
  refine RL.q (QV.vN T rfl rfl rfl rfl rfl (by exact (rfl : _ = [_, _, _, _, _, _]))) ?_
  refine RL.p T ?_
  refine RL.q (QV.vN T rfl rfl rfl rfl rfl (by exact (rfl : _ = [_, _, _, _, _, _]))) ?_
  refine RL.s ?_
  refine NV.eqd T PL rfl rfl rfl Try.eqGuardType35 rfl ?_
  exact hj
 ·repeat first | exact Mx.refl | exact Mx.mix | refine Mx.put rfl ?_ | refine Mx.upd rfl ?_ | refine Mx.updl rfl ?_ | refine Mx.fin rfl ?_ | refine Mx.inner rfl ?_ | refine Mx.none ?_
 refine RL.and ?_
 refine RL.p T ?_
 refine RL.join (fr1 := ?_) 5 17 true [18, 19, 20, 21, 22] (fun hs1 hj => ?_) ?_ ?_
 rotate_left
 ·have hs1j := hs1
  try simp only [decide_eq_true_eq, Bool.not_eq_true', decide_eq_false_iff_not, Bool.not_eq_false', Int.not_lt, Int.not_le, Int.toNat_natCast, Bool.and_eq_true, Bool.or_eq_true, Bool.and_eq_false_iff, Bool.or_eq_false_iff] at hs1
  refine RL.p T ?_
  refine RL.lv1 T ?_
  refine RL.p T ?_
  refine RL.lv1 T ?_
  refine RL.p T ?_
  exact hj
 ·repeat first | exact Mx.refl | exact Mx.mix | refine Mx.put rfl ?_ | refine Mx.upd rfl ?_ | refine Mx.updl rfl ?_ | refine Mx.fin rfl ?_ | refine Mx.inner rfl ?_ | refine Mx.none ?_
 refine RL.and ?_
 refine RL.p T ?_
 refine RL.join (fr1 := ?_) 5 24 true [25, 26, 27, 28, 29] (fun hs2 hj => ?_) ?_ ?_
 rotate_left
 ·have hs2j := hs2
  try simp only [decide_eq_true_eq, Bool.not_eq_true', decide_eq_false_iff_not, Bool.not_eq_false', Int.not_lt, Int.not_le, Int.toNat_natCast, Bool.and_eq_true, Bool.or_eq_true, Bool.and_eq_false_iff, Bool.or_eq_false_iff] at hs2
  refine RL.p T ?_
  refine RL.lv1 T ?_
  refine RL.p T ?_
  refine RL.lv1 T ?_
  refine RL.p T ?_
  exact hj
 ·repeat first | exact Mx.refl | exact Mx.mix | refine Mx.put rfl ?_ | refine Mx.upd rfl ?_ | refine Mx.updl rfl ?_ | refine Mx.fin rfl ?_ | refine Mx.inner rfl ?_ | refine Mx.none ?_
 refine RL.and ?_
 refine RL.p T ?_
 refine RL.join (fr1 := ?_) 5 31 true [32, 33, 34, 35, 36] (fun hs3 hj => ?_) ?_ ?_
 rotate_left
 ·have hs3j := hs3
  try simp only [decide_eq_true_eq, Bool.not_eq_true', decide_eq_false_iff_not, Bool.not_eq_false', Int.not_lt, Int.not_le, Int.toNat_natCast, Bool.and_eq_true, Bool.or_eq_true, Bool.and_eq_false_iff, Bool.or_eq_false_iff] at hs3
  refine RL.p T ?_
  refine RL.lv1 T ?_
  refine RL.p T ?_
  refine RL.lv1 T ?_
  refine RL.p T ?_
  exact hj
 ·repeat first | exact Mx.refl | exact Mx.mix | refine Mx.put rfl ?_ | refine Mx.upd rfl ?_ | refine Mx.updl rfl ?_ | refine Mx.fin rfl ?_ | refine Mx.inner rfl ?_ | refine Mx.none ?_
 refine RL.and ?_
 refine RL.p T ?_
 refine RL.join (fr1 := ?_) 5 38 true [39, 40, 41, 42, 43] (fun hs4 hj => ?_) ?_ ?_
 rotate_left
 ·have hs4j := hs4
  try simp only [decide_eq_true_eq, Bool.not_eq_true', decide_eq_false_iff_not, Bool.not_eq_false', Int.not_lt, Int.not_le, Int.toNat_natCast, Bool.and_eq_true, Bool.or_eq_true, Bool.and_eq_false_iff, Bool.or_eq_false_iff] at hs4
  refine RL.p T ?_
  refine RL.lv1 T ?_
  refine RL.p T ?_
  refine RL.lv1 T ?_
  refine RL.c fun13 (fun hs => same _ _ _ _ _ _ x.data y.data (by repeat first | exact hRa | apply Rd.cons | apply Rd.app) (by repeat first | exact hRb | apply Rd.cons | apply Rd.app) hna hnb hma hmb) ?_
  rintro _ _ ⟨rfl, e⟩; obtain rfl := e.symm
  exact hj
 ·repeat first | exact Mx.refl | exact Mx.mix | refine Mx.put rfl ?_ | refine Mx.upd rfl ?_ | refine Mx.updl rfl ?_ | refine Mx.fin rfl ?_ | refine Mx.inner rfl ?_ | refine Mx.none ?_
 refine RL.and ?_
 refine RL.p T ?_
 refine RL.nil _ _ _ _ ?_
 refine hK1 _ _ _ ?_
 refine SW.ret ?_
 refine retQ.rr (H) ?_
 clear hK1 K1 hK0 K0
 refine ⟨boolE ?_, rfl⟩
 unfold sameE t12
 rw [Bool.eq_iff_iff]
 simp only [Bool.and_eq_true, decide_eq_true_eq, List.cons.injEq, and_true, beq_iff_eq]
 constructor
 · intro h; simp_all
 · intro h; simp_all
end Go.Proofs.Ytecgicpimgghaaa.M
