import Derived.Test.YtmdmlhhhaidebaaProg
import Derived.Test.YtmdmlhhhaidebaaLCrcTurns
set_option linter.unusedVariables false
set_option linter.unusedSimpArgs false
namespace Go.Proofs.Ytmdmlhhhaidebaa.M
open Go Go.Sep Go.Proofs
set_option maxRecDepth 10000
set_option maxHeartbeats 2000000
theorem burst_start {x : List Int} {k B : Nat} (hx : Bit x) (h : k ≤ x.length) : x = turnL x k (blN B 0) := (turnL_nil hx h).symm
theorem burst_step {x : List Int} {k B i : Nat} {b : Int} (hx : Bit x) (h : k + i < x.length) (hb : b = ((B / 2 ^ i % 2 : Nat) : Int)) : (turnL x k (blN B i)).set (k + i) (xorI .u8 ((turnL x k (blN B i)).getD (k + i) 0) b) = turnL x k (blN B (i + 1)) := by
  have hl := blN_len B i
  have e := turnL_snoc (x := x) (w := blN B i) (k := k) (b := b) (by rw [hl]; exact h)
  have e2 := turnL_next (x := x) (w := blN B i) (k := k) hx (by rw [hl]; exact h)
  rw [hl] at e e2
  rw [e2, xorb (hx _) (by have := Nat.mod_lt (B / 2 ^ i) (by omega : 2 > 0); omega), e, blN_snoc, hb]
theorem crcBursts {w0 : World} {H : List Chunk} (m : Int) (sa : Option Addr) (n c : Nat) (es : List Int) (hR : Rd w0 H sa n c 1 (es.map (.int .u8))) (hn : n = es.length) (hm : n ≤ 140737488351232) (hB : Byte es) (q : Nat) (hq : q ≤ 65535) (b : Nat) (hb : b < 2 ^ 64) : SC Try.prog w0 7 #[.agg #[.int .i64 m, .slice sa n c, .int .u16 (q : Nat), .int .u64 (b : Nat)]] H (fun v H' => v = .bool true ∧ H' = H) := by
 refine SC.enter Try.func7 rfl (Nat.le_of_ble_eq_true rfl) ?_
 refine SW.seq_k fun K0 hK0 => ?_
 refine SW.region _ _ _ _ ?_
 refine RL.s ?_
 refine NV.box rfl (by exact (rfl : _ = [_, _, _, _])) ?_
 intro b1_0
 refine RL.p T ?_
 refine RL.nil _ _ _ _ ?_
 refine hK0 _ _ _ ?_
 refine SW.seq_k fun K1 hK1 => ?_
 refine SW.seq_k fun K2 hK2 => ?_
 refine SW.region _ _ _ _ ?_
 refine RL.c fun9 (fun hs => alive) ?_
 rintro _ _ ⟨rfl, e⟩; obtain rfl := e.symm
 refine RL.p T ?_
 refine RL.nil _ _ _ _ ?_
 refine hK2 _ _ _ ?_
 refine SW.cs (fun hc0 => ?_) (fun hc0 => ?_)
 ·skip
  first
   | (exfalso; first | omega | contradiction | (simp at *; done))
   | (
    refine SW.seq_k fun K3 hK3 => ?_
    refine SW.region _ _ _ _ ?_
    refine RL.p T ?_
    refine RL.nil _ _ _ _ ?_
    refine hK3 _ _ _ ?_
    refine SW.ret ?_
    refine retQ.rr (H) ?_
    clear hK3 K3 hK2 K2 hK1 K1 hK0 K0
    first
      | exact ⟨rfl, rfl⟩
      | (refine ⟨boolE ?_, rfl⟩; rw [hf]; simp; done)
      | (refine ⟨boolE ?_, rfl⟩; simp [*]; done)
    )
 ·skip
  first
   | (exfalso; first | omega | contradiction | (simp at *; done))
   | (
    refine SW.skip ?_
    refine hK1 _ _ _ ?_
    refine SW.seq_k fun K4 hK4 => ?_
    refine SW.drawQ [(14, 0), (15, 1), (16, 2), (17, 3), (18, 4), (19, 5), (20, 6), (21, 7), (3, 8), (4, 9), (5, 10), (6, 11)] [[], [0], [], [2], [], [4], [], [6], [1, 0], [3, 2, 8, 1, 0], [5, 4, 9, 3, 2, 8, 1, 0], [7, 6, 10, 5, 4, 9, 3, 2, 8, 1, 0]] mixed (by kernel_rfl) (by kernel_rfl) ?_
    refine QL.p T ?_
    refine QL.lv1 T ?_
    refine QL.p T ?_
    refine QL.lv1 T ?_
    refine QL.p T ?_
    refine QL.lv1 T ?_
    refine QL.p T ?_
    refine QL.lv1 T ?_
    refine QL.p T ?_
    refine QL.p T ?_
    refine QL.p T ?_
    refine QL.p T ?_
    refine QL.nil ?_
    refine hK4 _ _ _ ?_
    refine SW.seq_k fun K5 hK5 => ?_
    refine SW.seq_k fun K6 hK6 => ?_
    have hml := add_len m es
    have hab := add_byte (m := m) hB
    refine SW.region _ _ _ _ ?_
    refine RL.p T ?_
    refine RL.c fun10 (fun hs => good sa n c) ?_
    rintro _ _ ⟨rfl, e⟩; obtain rfl := e.symm
    refine RL.p T ?_
    refine RL.p T ?_
    refine RL.join (fr1 := ?_) 3 25 false [26, 27, 28] (fun hs0 hj => ?_) ?_ ?_
    rotate_left
    ·have hs0j := hs0
     try simp only [decide_eq_true_eq, Bool.not_eq_true', decide_eq_false_iff_not, Bool.not_eq_false', Int.not_lt, Int.not_le, Int.toNat_natCast, Bool.and_eq_true, Bool.or_eq_true, Bool.and_eq_false_iff, Bool.or_eq_false_iff] at hs0
     refine RL.p T ?_
     refine RL.c fun16 (fun hs => csize m) ?_
     rintro _ _ ⟨rfl, e⟩; obtain rfl := e.symm
     refine RL.p T ?_
     exact hj
    ·repeat first | exact Mx.refl | exact Mx.mix | refine Mx.put rfl ?_ | refine Mx.upd rfl ?_ | refine Mx.updl rfl ?_ | refine Mx.fin rfl ?_ | refine Mx.inner rfl ?_ | refine Mx.none ?_
    refine RL.or ?_
    refine RL.nil _ _ _ _ ?_
    refine hK6 _ _ _ ?_
    refine SW.cs (fun hc1 => ?_) (fun hc1 => ?_)
    ·skip
     first
      | (exfalso; first | omega | contradiction | (simp at *; done))
      | (
       refine SW.seq_k fun K7 hK7 => ?_
       refine SW.region _ _ _ _ ?_
       refine RL.p T ?_
       refine RL.nil _ _ _ _ ?_
       refine hK7 _ _ _ ?_
       refine SW.ret ?_
       refine retQ.rr (H) ?_
       clear hK7 K7 hK6 K6 hK5 K5 hK4 K4 hK2 K2 hK1 K1 hK0 K0
       first
         | exact ⟨rfl, rfl⟩
         | (refine ⟨boolE ?_, rfl⟩; rw [hf]; simp; done)
         | (refine ⟨boolE ?_, rfl⟩; simp [*]; done)
       )
    ·skip
     first
      | (exfalso; first | omega | contradiction | (simp at *; done))
      | (
       refine SW.skip ?_
       refine hK5 _ _ _ ?_
       refine SW.seq_k fun K8 hK8 => ?_
       refine SW.region _ _ _ _ ?_
       refine RL.p T ?_
       refine RL.p T ?_
       refine RL.c fun17 (fun hs => add m sa n c es hR.cons hn hm hB) ?_
       rintro _ _ ⟨a1, c1, rfl, e⟩; obtain rfl := e.symm
       refine RL.p T ?_
       refine RL.p T ?_
       refine RL.p T ?_
       refine RL.p T ?_
       refine RL.p T ?_
       refine RL.nil _ _ _ _ ?_
       refine hK8 _ _ _ ?_
       refine SW.seq_k fun K9 hK9 => ?_
       refine SW.seq_k fun K10 hK10 => ?_
       refine SW.region _ _ _ _ ?_
       refine RL.p T ?_
       refine RL.p T ?_
       refine RL.nil _ _ _ _ ?_
       refine hK10 _ _ _ ?_
       refine SW.cs (fun hc2 => ?_) (fun hc2 => ?_)
       ·skip
        first
         | (exfalso; first | omega | contradiction | (simp at *; done))
         | (
          refine SW.seq_k fun K11 hK11 => ?_
          refine SW.region _ _ _ _ ?_
          refine RL.p T ?_
          refine RL.nil _ _ _ _ ?_
          refine hK11 _ _ _ ?_
          refine SW.ret ?_
          refine retQ.rr (H) ?_
          clear hK11 K11 hK10 K10 hK9 K9 hK8 K8 hK6 K6 hK5 K5 hK4 K4 hK2 K2 hK1 K1 hK0 K0
          first
            | exact ⟨rfl, rfl⟩
            | (refine ⟨boolE ?_, rfl⟩; rw [hf]; simp; done)
            | (refine ⟨boolE ?_, rfl⟩; simp [*]; done)
          )
       ·skip
        first
         | (exfalso; first | omega | contradiction | (simp at *; done))
         | (
          refine SW.skip ?_
          refine hK9 _ _ _ ?_
          refine SW.seq_k fun K12 hK12 => ?_
          obtain ⟨hk0, hKO, hXl, hl3, hXb, hX0, hXt⟩ := addX (m := m) hB (by omega) (by omega)
          have hkm := kind_max m
          have hlo := hKO.lo
          have hp64 : (2 : Nat) ^ kz m < 2 ^ 64 := Nat.pow_lt_pow_right (by omega) (by omega)
          generalize (addV m es).1 = x at *
          refine SW.region _ _ _ _ ?_
          refine RL.p T ?_
          refine RL.c fun16 (fun hs => csize m) ?_
          rintro _ _ ⟨rfl, e⟩; obtain rfl := e.symm
          refine RL.p T ?_
          refine RL.nil _ _ _ _ ?_
          refine hK12 _ _ _ ?_
          refine SW.seq_k fun K13 hK13 => ?_
          refine SW.region _ _ _ _ ?_
          refine RL.p T ?_
          refine RL.p T ?_
          first | refine RL.cv T ?_ | refine RL.p T ?_ | refine RL.ts T ?_
          refine RL.q (QV.one_shl (s := kz m) rfl rfl rfl rfl (by omega)) ?_
          refine RL.q (QV.sub1 T rfl rfl rfl (Nat.pow_pos (by omega)) hp64) ?_
          refine RL.q (QV.mask (z := kz m) T rfl rfl rfl hb (by omega)) ?_
          have hBl : b % 2 ^ kz m < 2 ^ kz m := Nat.mod_lt _ (Nat.pow_pos (by omega))
          generalize b % 2 ^ kz m = B at hBl ⊢
          refine RL.p T ?_
          refine RL.nil _ _ _ _ ?_
          refine hK13 _ _ _ ?_
          refine SW.seq_k fun K14 hK14 => ?_
          refine SW.region _ _ _ _ ?_
          refine RL.p T ?_
          first | refine RL.cv T ?_ | refine RL.p T ?_ | refine RL.ts T ?_
          refine RL.p T ?_
          refine RL.p T ?_
          refine RL.p T ?_
          first | refine RL.ar ?_ | refine RL.p T ?_
          first | refine RL.ar ?_ | refine RL.p T ?_
          refine RL.q (QV.as (QV.remP (b := (x.length : Int) - (kz m : Nat) + 1) rfl rfl rfl (by omega) (by omega)) (show Value.int .i64 ((q : Int) % ((x.length : Int) - (kz m : Nat) + 1)) = .int .i64 ((q % (x.length - kz m + 1) : Nat) : Int) from by rw [Int.natCast_emod]; congr 2; omega)) ?_
          have hkk : q % (x.length - kz m + 1) < x.length - kz m + 1 := Nat.mod_lt q (by omega)
          generalize q % (x.length - kz m + 1) = k at hkk ⊢
          have hxl : 0 + x.length = x.length := Nat.zero_add _
          refine RL.p T ?_
          refine RL.nil _ _ _ _ ?_
          refine hK14 _ _ _ ?_
          refine SW.seq_k fun K15 hK15 => ?_
          refine SW.seq_k fun K16 hK16 => ?_
          refine SW.region _ _ _ _ ?_
          refine RL.p T ?_
          refine RL.p T ?_
          refine RL.nil _ _ _ _ ?_
          refine hK16 _ _ _ ?_
          refine SW.block ?_
          refine SW.loopM (fun frB mm fr ds HH => ∃ (i : Nat), mm = kz m - i ∧ (i ≤ kz m) ∧ FrIs [11, 55, 56, 57, 58, 59, 60, 61, 62, 63, 64, 65, 66, 67, 68, 69, 70, 71, 72] frB fr [(55, .int .i64 i)] ∧ ds = [] ∧ HH = (.row a1 x.length c1 5 1 ((turnL x k (blN B i)).map (.int .u8)) :: .var b1_0 46 [.int .i64 m, .slice sa n c, .int .u16 (q : Nat), .int .u64 (b : Nat)] :: H)) (n := kz m - 0) ?_ ?_
          ·exact ⟨0, rfl, Nat.zero_le _, (.consI rfl (by first | omega | rfl) (.nil (by repeat first | exact Mx.refl | exact Mx.mix | refine Mx.put rfl ?_ | refine Mx.upd rfl ?_ | refine Mx.updl rfl ?_ | refine Mx.fin rfl ?_ | refine Mx.inner rfl ?_ | refine Mx.none ?_))), rfl, (by rw [← burst_start hXb (by omega)])⟩
          ·rintro mm fr ds HH ⟨i, rfl, hi, hFr, rfl, eHH⟩
           obtain rfl := eHH.symm
           obtain ⟨frU, rfl⟩ := hFr.eq
           clear hFr
           have hyl := fun h => turnL_len (x := x) (k := k) (w := blN B i) h
           rw [blN_len] at hyl
           have hyl := hyl (by omega)
           refine SW.seq_k fun K17 hK17 => ?_
           refine SW.region _ _ _ _ ?_
           refine RL.p T ?_
           refine RL.nil _ _ _ _ ?_
           refine hK17 _ _ _ ?_
           refine SW.seq_k fun K18 hK18 => ?_
           refine SW.cs (fun hc3 => ?_) (fun hc3 => ?_)
           ·skip
            first
             | (exfalso; first | omega | contradiction | (simp at *; done))
             | (
              refine SW.skip ?_
              refine hK18 _ _ _ ?_
              refine SW.seq_k fun K19 hK19 => ?_
              refine SW.block ?_
              refine SW.seq_k fun K20 hK20 => ?_
              refine SW.region _ _ _ _ ?_
              refine RL.p T ?_
              refine RL.p T ?_
              refine RL.nil _ _ _ _ ?_
              refine hK20 _ _ _ ?_
              refine SW.region _ _ _ _ ?_
              refine RL.p T ?_
              refine RL.p T ?_
              refine RL.p T ?_
              first | refine RL.ar ?_ | refine RL.p T ?_
              refine RL.ix T ?_
              refine RL.le T ?_
              refine RL.p T ?_
              refine RL.p T ?_
              first | refine RL.cv T ?_ | refine RL.p T ?_ | refine RL.ts T ?_
              refine RL.q (QV.shrN (s := i) rfl rfl rfl rfl (by omega)) ?_
              refine RL.q (QV.and1 T rfl rfl rfl (by have := Nat.div_le_self B (2 ^ i); omega)) ?_
              first | refine RL.cv T ?_ | refine RL.p T ?_ | refine RL.ts T ?_
              refine RL.p T ?_
              refine RL.ix T ?_
              refine RL.sei T ?_
              rw [show ((k : Nat) : Int) + ((i : Nat) : Int) = ((k + i : Nat) : Int) by omega, Int.toNat_natCast, burst_step hXb (by omega) rfl]
              refine RL.nil _ _ _ _ ?_
              refine hK19 _ _ _ ?_
              refine SW.region _ _ _ _ ?_
              first | refine RL.ar ?_ | refine RL.p T ?_
              refine RL.p T ?_
              refine RL.nil _ _ _ _ ?_
              exact ⟨kz m - (i + 1), (by omega), i + 1, (by rfl), by omega, (.consI rfl (by first | omega | rfl) (.nil (by repeat first | exact Mx.refl | exact Mx.mix | refine Mx.put rfl ?_ | refine Mx.upd rfl ?_ | refine Mx.updl rfl ?_ | refine Mx.fin rfl ?_ | refine Mx.inner rfl ?_ | refine Mx.none ?_))), rfl, rfl⟩
              )
           ·skip
            first
             | (exfalso; first | omega | contradiction | (simp at *; done))
             | (
              refine SW.exit ?_
              refine hK15 _ _ _ ?_
              refine SW.seq_k fun K21 hK21 => ?_
              obtain rfl : i = kz m := by omega
              have hyl := turnL_len (x := x) (k := k) (w := blN B (kz m)) (by rw [blN_len]; omega)
              have hf : fitsV m (turnL x k (blN B (kz m))) = decide (B = 0) := by
                rw [fits_turn hk0 (by omega) (by omega) hXb (blN_bit _ _) (by rw [blN_len]; omega) hX0]
                exact decide_eq_decide.2 (burst_zero hKO.odd hKO.p (by omega) hBl)
              refine SW.region _ _ _ _ ?_
              refine RL.p T ?_
              refine RL.p T ?_
              refine RL.c fun20 (fun hs => fits m a1 _ c1 (turnL x k (blN B (kz m))) (Rd.rowh hs (by repeat first | exact At.head _ _ | apply At.tail)) hyl.symm (by omega) turnL_bit.byte) ?_
              rintro _ _ ⟨rfl, e⟩; obtain rfl := e.symm
              refine RL.p T ?_
              refine RL.p T ?_
              refine RL.p T ?_
              refine RL.p T ?_
              refine RL.nil _ _ _ _ ?_
              refine hK21 _ _ _ ?_
              refine SW.ret ?_
              refine retQ.rr (H) ?_
              clear hK21 K21 hK18 K18 hK17 K17 hK16 K16 hK15 K15 hK14 K14 hK13 K13 hK12 K12 hK10 K10 hK9 K9 hK8 K8 hK6 K6 hK5 K5 hK4 K4 hK2 K2 hK1 K1 hK0 K0
              first
                | exact ⟨rfl, rfl⟩
                | (refine ⟨boolE ?_, rfl⟩; rw [hf]; simp; done)
                | (refine ⟨boolE ?_, rfl⟩; simp [*]; done)
              )
          )
       )
    )
theorem crcBurstsI {w0 : World} {H : List Chunk} (m : Int) (sa : Option Addr) (n c : Nat) (es : List Int) (hR : ∀ H, Rd w0 H sa n c 1 (es.map (.int .u8))) (hn : n = es.length) (hm : n ≤ 140737488351232) (hB : Byte es) (s : Int) (h0 : 0 ≤ s) (h1 : s ≤ 65535) (t : Int) (h2 : 0 ≤ t) (h3 : t ≤ 18446744073709551615) : SC Try.prog w0 7 #[.agg #[.int .i64 m, .slice sa n c, .int .u16 s, .int .u64 t]] H (fun v H' => v = .bool true ∧ H' = H) := by
  obtain ⟨k, rfl⟩ := Int.eq_ofNat_of_zero_le h0
  obtain ⟨j, rfl⟩ := Int.eq_ofNat_of_zero_le h2
  exact crcBursts m sa n c es (hR _) hn hm hB k (by omega) j (by omega)
end Go.Proofs.Ytmdmlhhhaidebaa.M
