import Derived.Test.YtmdmlhhhaidebaaProg
import Derived.Test.YtmdmlhhhaidebaaFG2
set_option linter.unusedVariables false
set_option linter.unusedSimpArgs false
namespace Go.Proofs.Ytmdmlhhhaidebaa.M
open Go Go.Sep Go.Proofs
set_option maxRecDepth 10000
set_option maxHeartbeats 2000000
theorem addX {m : Int} {es : List Int} (hB : Byte es) (h : (addV m es).2 = 0) (hn : es.length ≤ 3000 ∨ 65536 < es.length) : kz m ≠ 0 ∧ KOk m ∧ (addV m es).1.length = es.length + kz m ∧ es.length ≤ 3000 ∧ Bit (addV m es).1 ∧ crcN (kz m) (kp m) (ks m) (addV m es).1 = 0 ∧ (addV m es).1.take es.length = es := by
  by_cases hb : kz m = 0 ∨ chk es ≠ 0
  · rw [addV_bad hb] at h; cases h
  · have hk : kz m ≠ 0 := by omega
    have hc : chk es = 0 := by omega
    rw [addV_ok hk hc]
    have hbit := chk_bit hB hc
    refine ⟨hk, kind_ok m hk, by rw [List.length_append, bitsS_length], by have := (chk_zero.1 hc).1; omega, hbit.append (bitsS_bit _ _), add_zero hk hbit, ?_⟩
    exact List.take_left
theorem addE {m : Int} {es : List Int} (h : (addV m es).2 ≠ 0) : (addV m es).1 = [] := by
  unfold addV at *
  split
  · rfl
  · rename_i hb; rw [if_neg hb] at h; exact absurd rfl h
theorem turn_first {x : List Int} {k : Nat} (hx : Bit x) (h : k < x.length) : x.set k (xorI .u8 (x.getD k 0) 1) = turnL x k [1] := by
  have e := turnL_snoc (x := x) (w := []) (k := k) (b := 1) (by simpa using h)
  rw [turnL_nil hx (by omega)] at e
  rw [xorb (hx k) (by omega)]
  simpa using e
theorem turn_second {x : List Int} {k : Nat} (hx : Bit x) (h : k + 1 < x.length) : (turnL x k [1]).set (k + 1) (xorI .u8 ((turnL x k [1]).getD (k + 1) 0) 1) = turnL x k [1, 1] := by
  have e := turnL_snoc (x := x) (w := [1]) (k := k) (b := 1) h
  have e2 := turnL_next (x := x) (w := [1]) (k := k) hx h
  rw [show k + [(1 : Int)].length = k + 1 from rfl] at e e2
  rw [e2, xorb (hx _) (by omega)]
  exact e
theorem crcTurns {w0 : World} {H : List Chunk} (m : Int) (sa : Option Addr) (n c : Nat) (es : List Int) (hR : Rd w0 H sa n c 1 (es.map (.int .u8))) (hn : n = es.length) (hm : n ≤ 140737488351232) (hB : Byte es) (q : Nat) (hq : q ≤ 65535) (two : Bool) : SC Try.prog w0 6 #[.agg #[.int .i64 m, .slice sa n c, .int .u16 (q : Nat), .bool two]] H (fun v H' => v = .bool true ∧ H' = H) := by
 refine SC.enter Try.func6 rfl (Nat.le_of_ble_eq_true rfl) ?_
 refine SW.seq_k fun K0 hK0 => ?_
 refine SW.region _ _ _ _ ?_
 refine RL.s ?_
 refine NV.box rfl (by exact (rfl : _ = [_, _, _, _])) ?_
 intro b1_0
 refine RL.p T ?_
 refine RL.nil _ _ _ _ ?_
 refine hK0 _ _ _ ?_
 refine SW.seq_k fun K1 hK1 => ?_
 refine SW.seq_k fun K2 hK2 => ?_
 refine SW.region _ _ _ _ ?_
 refine RL.c fun9 (fun hs => alive) ?_
 rintro _ _ ⟨rfl, e⟩; obtain rfl := e.symm
 refine RL.p T ?_
 refine RL.nil _ _ _ _ ?_
 refine hK2 _ _ _ ?_
 refine SW.cs (fun hc0 => ?_) (fun hc0 => ?_)
 ·skip
  first
   | (exfalso; first | omega | contradiction | (simp at *; done))
   | (
    refine SW.seq_k fun K3 hK3 => ?_
    refine SW.region _ _ _ _ ?_
    refine RL.p T ?_
    refine RL.nil _ _ _ _ ?_
    refine hK3 _ _ _ ?_
    refine SW.ret ?_
    refine retQ.rr (H) ?_
    clear hK3 K3 hK2 K2 hK1 K1 hK0 K0
    first
      | exact ⟨rfl, rfl⟩
      | (exfalso; simp [hfit, hXt] at *; done)
      | (refine ⟨boolE ?_, rfl⟩; rw [hE]; rfl)
      | (refine ⟨boolE ?_, rfl⟩; rw [hf2]; rfl)
      | (refine ⟨boolE ?_, rfl⟩; rw [hf1]; rfl)
      | (refine ⟨boolE ?_, rfl⟩; simp [*]; done)
    )
 ·skip
  first
   | (exfalso; first | omega | contradiction | (simp at *; done))
   | (
    refine SW.skip ?_
    refine hK1 _ _ _ ?_
    refine SW.seq_k fun K4 hK4 => ?_
    refine SW.drawQ [(12, 0), (13, 1), (14, 2), (15, 3), (16, 4), (17, 5), (18, 6), (19, 7), (3, 8), (4, 9), (5, 10), (6, 11)] [[], [0], [], [2], [], [4], [], [6], [1, 0], [3, 2, 8, 1, 0], [5, 4, 9, 3, 2, 8, 1, 0], [7, 6, 10, 5, 4, 9, 3, 2, 8, 1, 0]] mixed (by kernel_rfl) (by kernel_rfl) ?_
    refine QL.p T ?_
    refine QL.lv1 T ?_
    refine QL.p T ?_
    refine QL.lv1 T ?_
    refine QL.p T ?_
    refine QL.lv1 T ?_
    refine QL.p T ?_
    refine QL.lv1 T ?_
    refine QL.p T ?_
    refine QL.p T ?_
    refine QL.p T ?_
    refine QL.p T ?_
    refine QL.nil ?_
    refine hK4 _ _ _ ?_
    refine SW.seq_k fun K5 hK5 => ?_
    refine SW.seq_k fun K6 hK6 => ?_
    refine SW.region _ _ _ _ ?_
    refine RL.p T ?_
    refine RL.c fun10 (fun hs => good sa n c) ?_
    rintro _ _ ⟨rfl, e⟩; obtain rfl := e.symm
    refine RL.p T ?_
    refine RL.nil _ _ _ _ ?_
    refine hK6 _ _ _ ?_
    refine SW.cs (fun hc1 => ?_) (fun hc1 => ?_)
    ·skip
     first
      | (exfalso; first | omega | contradiction | (simp at *; done))
      | (
       refine SW.seq_k fun K7 hK7 => ?_
       refine SW.region _ _ _ _ ?_
       refine RL.p T ?_
       refine RL.nil _ _ _ _ ?_
       refine hK7 _ _ _ ?_
       refine SW.ret ?_
       refine retQ.rr (H) ?_
       clear hK7 K7 hK6 K6 hK5 K5 hK4 K4 hK2 K2 hK1 K1 hK0 K0
       first
         | exact ⟨rfl, rfl⟩
         | (exfalso; simp [hfit, hXt] at *; done)
         | (refine ⟨boolE ?_, rfl⟩; rw [hE]; rfl)
         | (refine ⟨boolE ?_, rfl⟩; rw [hf2]; rfl)
         | (refine ⟨boolE ?_, rfl⟩; rw [hf1]; rfl)
         | (refine ⟨boolE ?_, rfl⟩; simp [*]; done)
       )
    ·skip
     first
      | (exfalso; first | omega | contradiction | (simp at *; done))
      | (
       refine SW.skip ?_
       refine hK5 _ _ _ ?_
       refine SW.seq_k fun K8 hK8 => ?_
       have hml := add_len m es
       have hab := add_byte (m := m) hB
       refine SW.region _ _ _ _ ?_
       refine RL.p T ?_
       refine RL.p T ?_
       refine RL.c fun17 (fun hs => add m sa n c es hR.cons hn hm hB) ?_
       rintro _ _ ⟨a1, c1, rfl, e⟩; obtain rfl := e.symm
       refine RL.p T ?_
       refine RL.p T ?_
       refine RL.p T ?_
       refine RL.p T ?_
       refine RL.p T ?_
       refine RL.nil _ _ _ _ ?_
       refine hK8 _ _ _ ?_
       refine SW.seq_k fun K9 hK9 => ?_
       refine SW.seq_k fun K10 hK10 => ?_
       refine SW.region _ _ _ _ ?_
       refine RL.p T ?_
       refine RL.p T ?_
       refine RL.nil _ _ _ _ ?_
       refine hK10 _ _ _ ?_
       refine SW.cs (fun hc2 => ?_) (fun hc2 => ?_)
       ·skip
        first
         | (exfalso; first | omega | contradiction | (simp at *; done))
         | (
          refine SW.seq_k fun K11 hK11 => ?_
          have hE := addE (m := m) (es := es) (by omega)
          refine SW.region _ _ _ _ ?_
          refine RL.p T ?_
          refine RL.p T ?_
          refine RL.p T ?_
          refine RL.p T ?_
          refine RL.nil _ _ _ _ ?_
          refine hK11 _ _ _ ?_
          refine SW.ret ?_
          refine retQ.rr (H) ?_
          clear hK11 K11 hK10 K10 hK9 K9 hK8 K8 hK6 K6 hK5 K5 hK4 K4 hK2 K2 hK1 K1 hK0 K0
          first
            | exact ⟨rfl, rfl⟩
            | (exfalso; simp [hfit, hXt] at *; done)
            | (refine ⟨boolE ?_, rfl⟩; rw [hE]; rfl)
            | (refine ⟨boolE ?_, rfl⟩; rw [hf2]; rfl)
            | (refine ⟨boolE ?_, rfl⟩; rw [hf1]; rfl)
            | (refine ⟨boolE ?_, rfl⟩; simp [*]; done)
          )
       ·skip
        first
         | (exfalso; first | omega | contradiction | (simp at *; done))
         | (
          refine SW.skip ?_
          refine hK9 _ _ _ ?_
          refine SW.seq_k fun K12 hK12 => ?_
          refine SW.seq_k fun K13 hK13 => ?_
          obtain ⟨hk0, hKO, hXl, hl3, hXb, hX0, hXt⟩ := addX (m := m) hB (by omega) (by omega)
          have hkm := kind_max m
          have hlo := hKO.lo
          have hfit : fitsV m (addV m es).1 = true := by rw [fits_zero hk0 (by omega) (by omega) hXb, hX0]; rfl
          generalize (addV m es).1 = x at *
          rw [← hn] at hXt
          refine SW.region _ _ _ _ ?_
          refine RL.p T ?_
          refine RL.p T ?_
          refine RL.c fun20 (fun hs => fits m a1 _ c1 x (Rd.rowh hs (by repeat first | exact At.head _ _ | apply At.tail)) rfl (by omega) hab) ?_
          rintro _ _ ⟨rfl, e⟩; obtain rfl := e.symm
          refine RL.p T ?_
          refine RL.p T ?_
          refine RL.join (fr1 := ?_) 7 38 false [39, 40, 41, 42, 43, 44, 45] (fun hs0 hj => ?_) ?_ ?_
          rotate_left
          ·have hs0j := hs0
           try simp only [decide_eq_true_eq, Bool.not_eq_true', decide_eq_false_iff_not, Bool.not_eq_false', Int.not_lt, Int.not_le, Int.toNat_natCast, Bool.and_eq_true, Bool.or_eq_true, Bool.and_eq_false_iff, Bool.or_eq_false_iff] at hs0
           refine RL.p T ?_
           refine RL.p T ?_
           refine RL.p T ?_
           refine RL.sl T ?_ (h1 := n)
           refine RL.p T ?_
           refine RL.c fun19 (fun hs => same _ sa _ _ n c (x.take n) es (Rd.pre n (Rd.rowh hs (by repeat first | exact At.head _ _ | apply At.tail)) (by omega)) hR.cons.cons (by rw [List.length_take]; omega) hn (by omega) hm) ?_
           rintro _ _ ⟨rfl, e⟩; obtain rfl := e.symm
           refine RL.p T ?_
           exact hj
          ·repeat first | exact Mx.refl | exact Mx.mix | refine Mx.put rfl ?_ | refine Mx.upd rfl ?_ | refine Mx.updl rfl ?_ | refine Mx.fin rfl ?_ | refine Mx.inner rfl ?_ | refine Mx.none ?_
          refine RL.or ?_
          refine RL.nil _ _ _ _ ?_
          refine hK13 _ _ _ ?_
          refine SW.cs (fun hc3 => ?_) (fun hc3 => ?_)
          ·skip
           first
            | (exfalso; first | omega | contradiction | (simp at *; done))
            | (
             refine SW.seq_k fun K14 hK14 => ?_
             refine SW.region _ _ _ _ ?_
             refine RL.p T ?_
             refine RL.nil _ _ _ _ ?_
             refine hK14 _ _ _ ?_
             refine SW.ret ?_
             refine retQ.rr (H) ?_
             clear hK14 K14 hK13 K13 hK12 K12 hK10 K10 hK9 K9 hK8 K8 hK6 K6 hK5 K5 hK4 K4 hK2 K2 hK1 K1 hK0 K0
             first
               | exact ⟨rfl, rfl⟩
               | (exfalso; simp [hfit, hXt] at *; done)
               | (refine ⟨boolE ?_, rfl⟩; rw [hE]; rfl)
               | (refine ⟨boolE ?_, rfl⟩; rw [hf2]; rfl)
               | (refine ⟨boolE ?_, rfl⟩; rw [hf1]; rfl)
               | (refine ⟨boolE ?_, rfl⟩; simp [*]; done)
             )
          ·skip
           first
            | (exfalso; first | omega | contradiction | (simp at *; done))
            | (
             refine SW.skip ?_
             refine hK12 _ _ _ ?_
             refine SW.seq_k fun K15 hK15 => ?_
             refine SW.region _ _ _ _ ?_
             refine RL.p T ?_
             first | refine RL.cv T ?_ | refine RL.p T ?_ | refine RL.ts T ?_
             refine RL.p T ?_
             refine RL.p T ?_
             refine RL.q (QV.as (QV.remP (b := (x.length : Int)) rfl rfl rfl (by omega) (by omega)) (show Value.int .i64 ((q : Int) % (x.length : Int)) = .int .i64 ((q % x.length : Nat) : Int) from by rw [Int.natCast_emod])) ?_
             have hkk : q % x.length < x.length := Nat.mod_lt q (by omega)
             generalize q % x.length = k at hkk ⊢
             refine RL.p T ?_
             refine RL.nil _ _ _ _ ?_
             refine hK15 _ _ _ ?_
             refine SW.seq_k fun K16 hK16 => ?_
             refine SW.region _ _ _ _ ?_
             refine RL.p T ?_
             refine RL.p T ?_
             refine RL.ix T ?_
             refine RL.le T ?_
             refine RL.p T ?_
             refine RL.ix T ?_
             refine RL.sei T ?_
             refine RL.nil _ _ _ _ ?_
             refine hK16 _ _ _ ?_
             refine SW.seq_k fun K17 hK17 => ?_
             refine SW.seq_k fun K18 hK18 => ?_
             rw [turn_first hXb hkk]
             have hb1 : Bit [1] := Bit.mk (by omega) (by omega) Bit.nil
             have hb2 : Bit [1, 1] := Bit.mk (by omega) (by omega) hb1
             have ho := turn_one (m := m) hk0
             have hy1 := turnL_len (x := x) (k := k) (w := [1]) (by show k + 1 ≤ _; omega)
             have hf1 : fitsV m (turnL x k [1]) = false := by rw [fits_turn hk0 (by omega) (by omega) hXb hb1 (by show k + 1 ≤ _; omega) hX0]; exact decide_eq_false ho.1
             refine SW.region _ _ _ _ ?_
             refine RL.p T ?_
             refine RL.p T ?_
             refine RL.join (fr1 := ?_) 5 59 true [60, 61, 62, 63, 64] (fun hs1 hj => ?_) ?_ ?_
             rotate_left
             ·have hs1j := hs1
              try simp only [decide_eq_true_eq, Bool.not_eq_true', decide_eq_false_iff_not, Bool.not_eq_false', Int.not_lt, Int.not_le, Int.toNat_natCast, Bool.and_eq_true, Bool.or_eq_true, Bool.and_eq_false_iff, Bool.or_eq_false_iff] at hs1
              refine RL.p T ?_
              first | refine RL.ar ?_ | refine RL.p T ?_
              refine RL.p T ?_
              refine RL.p T ?_
              refine RL.p T ?_
              exact hj
             ·repeat first | exact Mx.refl | exact Mx.mix | refine Mx.put rfl ?_ | refine Mx.upd rfl ?_ | refine Mx.updl rfl ?_ | refine Mx.fin rfl ?_ | refine Mx.inner rfl ?_ | refine Mx.none ?_
             refine RL.and ?_
             refine RL.nil _ _ _ _ ?_
             refine hK18 _ _ _ ?_
             refine SW.cs (fun hc4 => ?_) (fun hc4 => ?_)
             ·skip
              first
               | (exfalso; first | omega | contradiction | (simp at *; done))
               | (
                refine SW.region _ _ _ _ ?_
                refine RL.p T ?_
                refine RL.p T ?_
                first | refine RL.ar ?_ | refine RL.p T ?_
                refine RL.ix T ?_
                refine RL.le T ?_
                refine RL.p T ?_
                refine RL.ix T ?_
                refine RL.sei T ?_
                have ek : ((k : Int) + 1).toNat = k + 1 := by omega
                rw [ek, turn_second hXb (by omega)]
                have hy2 := turnL_len (x := x) (k := k) (w := [1, 1]) (by show k + 2 ≤ _; omega)
                have hf2 : fitsV m (turnL x k [1, 1]) = false := by rw [fits_turn hk0 (by omega) (by omega) hXb hb2 (by show k + 2 ≤ _; omega) hX0]; exact decide_eq_false ho.2
                refine RL.nil _ _ _ _ ?_
                refine hK17 _ _ _ ?_
                refine SW.seq_k fun K19 hK19 => ?_
                refine SW.region _ _ _ _ ?_
                refine RL.p T ?_
                refine RL.p T ?_
                refine RL.c fun20 (fun hs => (by first | exact fits m a1 _ c1 (turnL x k [1, 1]) (Rd.rowh hs (by repeat first | exact At.head _ _ | apply At.tail)) hy2.symm (by omega) turnL_bit.byte | exact fits m a1 _ c1 (turnL x k [1]) (Rd.rowh hs (by repeat first | exact At.head _ _ | apply At.tail)) hy1.symm (by omega) turnL_bit.byte)) ?_
                rintro _ _ ⟨rfl, e⟩; obtain rfl := e.symm
                refine RL.p T ?_
                refine RL.p T ?_
                refine RL.nil _ _ _ _ ?_
                refine hK19 _ _ _ ?_
                refine SW.ret ?_
                refine retQ.rr (H) ?_
                clear hK19 K19 hK18 K18 hK17 K17 hK16 K16 hK15 K15 hK13 K13 hK12 K12 hK10 K10 hK9 K9 hK8 K8 hK6 K6 hK5 K5 hK4 K4 hK2 K2 hK1 K1 hK0 K0
                first
                  | exact ⟨rfl, rfl⟩
                  | (exfalso; simp [hfit, hXt] at *; done)
                  | (refine ⟨boolE ?_, rfl⟩; rw [hE]; rfl)
                  | (refine ⟨boolE ?_, rfl⟩; rw [hf2]; rfl)
                  | (refine ⟨boolE ?_, rfl⟩; rw [hf1]; rfl)
                  | (refine ⟨boolE ?_, rfl⟩; simp [*]; done)
                )
             ·skip
              first
               | (exfalso; first | omega | contradiction | (simp at *; done))
               | (
                refine SW.skip ?_
                refine hK17 _ _ _ ?_
                refine SW.seq_k fun K20 hK20 => ?_
                refine SW.region _ _ _ _ ?_
                refine RL.p T ?_
                refine RL.p T ?_
                refine RL.c fun20 (fun hs => (by first | exact fits m a1 _ c1 (turnL x k [1, 1]) (Rd.rowh hs (by repeat first | exact At.head _ _ | apply At.tail)) hy2.symm (by omega) turnL_bit.byte | exact fits m a1 _ c1 (turnL x k [1]) (Rd.rowh hs (by repeat first | exact At.head _ _ | apply At.tail)) hy1.symm (by omega) turnL_bit.byte)) ?_
                rintro _ _ ⟨rfl, e⟩; obtain rfl := e.symm
                refine RL.p T ?_
                refine RL.p T ?_
                refine RL.nil _ _ _ _ ?_
                refine hK20 _ _ _ ?_
                refine SW.ret ?_
                refine retQ.rr (H) ?_
                clear hK20 K20 hK18 K18 hK17 K17 hK16 K16 hK15 K15 hK13 K13 hK12 K12 hK10 K10 hK9 K9 hK8 K8 hK6 K6 hK5 K5 hK4 K4 hK2 K2 hK1 K1 hK0 K0
                first
                  | exact ⟨rfl, rfl⟩
                  | (exfalso; simp [hfit, hXt] at *; done)
                  | (refine ⟨boolE ?_, rfl⟩; rw [hE]; rfl)
                  | (refine ⟨boolE ?_, rfl⟩; rw [hf2]; rfl)
                  | (refine ⟨boolE ?_, rfl⟩; rw [hf1]; rfl)
                  | (refine ⟨boolE ?_, rfl⟩; simp [*]; done)
                )
             )
          )
       )
    )
theorem crcTurnsI {w0 : World} {H : List Chunk} (m : Int) (sa : Option Addr) (n c : Nat) (es : List Int) (hR : ∀ H, Rd w0 H sa n c 1 (es.map (.int .u8))) (hn : n = es.length) (hm : n ≤ 140737488351232) (hB : Byte es) (s : Int) (h0 : 0 ≤ s) (h1 : s ≤ 65535) (two : Bool) : SC Try.prog w0 6 #[.agg #[.int .i64 m, .slice sa n c, .int .u16 s, .bool two]] H (fun v H' => v = .bool true ∧ H' = H) := by
  obtain ⟨k, rfl⟩ := Int.eq_ofNat_of_zero_le h0
  exact crcTurns m sa n c es (hR _) hn hm hB k (by omega) two
end Go.Proofs.Ytmdmlhhhaidebaa.M
