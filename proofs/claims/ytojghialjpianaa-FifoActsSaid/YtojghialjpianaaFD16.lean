import Derived.Test.YtojghialjpianaaProg
import Derived.Test.YtojghialjpianaaFC16
set_option linter.unusedVariables false
set_option linter.unusedSimpArgs false
namespace Go.Proofs.Ytojghialjpianaa.M
open Go Go.Sep Go.Proofs
set_option maxRecDepth 10000
set_option maxHeartbeats 2000000
theorem pushU {w0 : World} {H : List Chunk} (b : Nat) (R : Nat → Fs) (room first n over : Nat) (kk : Chunk → List Chunk) (hat : At H (.var b 57 (FifoC R room first n over)) kk) (L : List Fs) (hL : RingIs R first L) (hn : n = L.length) (hr : room ≤ 64) (ho : over < 4611686018427387904) (x : Fs) (hx : FsOk w0 H x) : SC Try.prog w0 11 #[.pointer (some ⟨b, 0, none⟩), FsA x] H (fun v H' => ∃ D R' n' over' L', v = .tuple #[.bool (pushI room n x.f), .int .i64 (chkF x.f)] ∧ H' = D ++ kk (.var b 57 (FifoC R' room first ((n' : Nat) : Int) ((over' : Nat) : Int))) ∧ RingIs R' first L' ∧ n' = L'.length ∧ frs L' = pushL room (frs L) x.f ∧ over' = pushO room n over x.f ∧ (∀ y ∈ L', y ∈ L ∨ FsOk w0 D y)) := by
  have hl := frs_len L
  by_cases hc : chkF x.f = 0
  · by_cases hnr : n < room
    · refine SC.satR ((push_ok b R room first n over kk hat x hx hL.lt hr hc hnr).mono ?_)
      rintro _ _ ⟨a1, c1, rfl, rfl⟩ hs
      refine ⟨[rowOf ⟨x.f, a1, x.f.data.length, c1⟩], _, n + 1, over, L ++ [⟨x.f, a1, x.f.data.length, c1⟩], by rw [pushI, decide_eq_true ⟨hc, hnr⟩, hc], rfl, ?_, by simp [hn], ?_, ?_, ?_⟩
      · rw [hn]; exact hL.push (by omega) _
      · rw [pushL, if_pos ⟨hc, by omega⟩]; simp [frs]
      · rw [pushO, if_neg (by omega)]
      · intro y hy
        refine (List.mem_append.1 hy).imp id fun h => ?_
        rw [List.mem_singleton.1 h]
        exact ⟨rfl, by show x.f.data.length ≤ _; rw [← hx.len]; exact hx.max, hx.ok, Rd.rowh (satl (G := [rowOf ⟨x.f, a1, x.f.data.length, c1⟩]) hs) (At.head _ _)⟩
    · refine (push_full b R room first n over kk hat x hx hc (by omega) ho).mono ?_
      rintro _ _ ⟨rfl, rfl⟩
      refine ⟨[], R, n, over + 1, L, by rw [pushI, decide_eq_false (by omega), hc], rfl, hL, hn, ?_, ?_, fun y hy => .inl hy⟩
      · rw [pushL, if_neg (by omega)]
      · rw [pushO, if_pos ⟨hc, by omega⟩]
  · refine (push_bad b R room first n over kk hat x hx hc).mono ?_
    rintro _ _ ⟨rfl, rfl⟩
    obtain ⟨Rr, hp, hq⟩ := hat.perm
    refine ⟨[], R, n, over, L, by rw [pushI, decide_eq_false (by omega), show chkF x.f = 2 from (chkF_or x.f).resolve_left hc], ?_, hL, hn, ?_, ?_, fun y hy => .inl hy⟩
    · exact hat.same.symm
    · rw [pushL, if_neg (by omega)]
    · rw [pushO, if_neg (by omega)]
theorem popU {w0 : World} {H : List Chunk} (b : Nat) (R : Nat → Fs) (room first n over : Nat) (kk : Chunk → List Chunk) (hat : At H (.var b 57 (FifoC R room first n over)) kk) (L : List Fs) (hL : RingIs R first L) (hn : n = L.length) (h0 : 0 < n) : SC Try.prog w0 15 #[.pointer (some ⟨b, 0, none⟩)] H (fun v H' => ∃ R' first', v = .tuple #[FsA (L.getD 0 default), .int .i64 0] ∧ H' = kk (.var b 57 (FifoC R' room ((first' : Nat) : Int) ((n - 1 : Nat) : Int) over)) ∧ RingIs R' first' L.tail) := by
  have hp := hL.pop (by omega)
  refine (pop_ok b R room first n over kk hat hL.lt h0 (by have := hL.len; omega)).mono ?_
  rintro _ _ ⟨rfl, rfl⟩
  exact ⟨_, _, by rw [hp.1], rfl, hp.2⟩
theorem fsameT {w0 : World} {H : List Chunk} (f : Frm) (sa : Option Addr) (n c : Nat) (hR : Rd w0 H sa n c 1 (f.data.map (.int .u8))) (hn : n = f.data.length) (hm : n ≤ 140737488351232) (hf : FrOk f) (g : Frm) (sb : Option Addr) (m d : Nat) (hS : Rd w0 H sb m d 1 (g.data.map (.int .u8))) (hn2 : m = g.data.length) (hm2 : m ≤ 140737488351232) (hg : FrOk g) (he : f = g) : SC Try.prog w0 16 #[FA f sa n c, FA g sb m d] H (fun v H' => v = .bool true ∧ H' = H) := by
  have h := fsame f sa n c hR hn hm hf g sb m d hS hn2 hm2 hg
  rw [show sameF f g = true from sameF_iff.2 he] at h
  exact h
theorem alive {w0 : World} {H : List Chunk}  : SC Try.prog w0 9 #[] H (fun v H' => v = .bool true ∧ H' = H) := by
 refine SC.enter Try.func9 rfl (Nat.le_of_ble_eq_true rfl) ?_
 refine SW.seq_k fun K0 hK0 => ?_
 refine SW.region _ _ _ _ ?_
 refine RL.p T ?_
 refine RL.nil _ _ _ _ ?_
 refine hK0 _ _ _ ?_
 refine SW.seq_k fun K1 hK1 => ?_
 refine SW.region _ _ _ _ ?_
 refine RL.c fun10 (fun hs => fnew 2 (by omega)) ?_
 rintro _ _ ⟨bq, rfl, e⟩; obtain rfl := e.symm
 refine RL.p T ?_
 refine RL.p T ?_
 refine RL.p T ?_
 refine RL.p T ?_
 refine RL.p T ?_
 refine RL.nil _ _ _ _ ?_
 refine hK1 _ _ _ ?_
 refine SW.seq_k fun K2 hK2 => ?_
 refine SW.seq_k fun K3 hK3 => ?_
 refine SW.region _ _ _ _ ?_
 refine RL.p T ?_
 refine RL.p T ?_
 refine RL.p T ?_
 refine RL.join (fr1 := ?_) 2 19 false [20, 21] (fun hs0 hj => ?_) ?_ ?_
 rotate_left
 ·have hs0j := hs0
  try simp only [decide_eq_true_eq, Bool.not_eq_true', decide_eq_false_iff_not, Bool.not_eq_false', Int.not_lt, Int.not_le, Int.toNat_natCast, Bool.and_eq_true, Bool.or_eq_true, Bool.and_eq_false_iff, Bool.or_eq_false_iff] at hs0
  refine RL.p T ?_
  refine RL.p T ?_
  exact hj
 ·repeat first | exact Mx.refl | exact Mx.mix | refine Mx.put rfl ?_ | refine Mx.upd rfl ?_ | refine Mx.updl rfl ?_ | refine Mx.fin rfl ?_ | refine Mx.inner rfl ?_ | refine Mx.none ?_
 refine RL.or ?_
 refine RL.nil _ _ _ _ ?_
 refine hK3 _ _ _ ?_
 refine SW.cs (fun hc0 => ?_) (fun hc0 => ?_)
 ·skip
  first
   | (exfalso; first | omega | contradiction | (simp at *; done))
   | (
    refine SW.seq_k fun K4 hK4 => ?_
    refine SW.region _ _ _ _ ?_
    refine RL.p T ?_
    refine RL.nil _ _ _ _ ?_
    refine hK4 _ _ _ ?_
    refine SW.ret ?_
    refine retQ.rr (H) ?_
    clear hK4 K4 hK3 K3 hK2 K2 hK1 K1 hK0 K0
    first
      | exact ⟨rfl, rfl⟩
      | (refine ⟨boolE ?_, rfl⟩; decide +kernel)
    )
 ·skip
  first
   | (exfalso; first | omega | contradiction | (simp at *; done))
   | (
    refine SW.skip ?_
    refine hK2 _ _ _ ?_
    refine SW.seq_k fun K5 hK5 => ?_
    refine SW.region _ _ _ _ ?_
    refine RL.s ?_
    first | refine NV.buildc T rfl (rfl : _ = some [_, _, _, _, _, _, _, _, _, _, _]) ?_ | refine NV.buildz T rfl (rfl : _ = some [_, _, _, _, _, _, _, _, _, _, _]) ?_ | refine NV.pure T (rfl : _ = some (Value.agg #[_, _, _, _, _, _, _, _, _, _, _])) ?_
    refine RL.s ?_
    refine NV.alloc T rfl rfl rfl (by exact (rfl : _ = [_, _, _, _, _, _, _, _, _, _, _])) ?_
    intro b3_0
    refine RL.s ?_
    refine NV.sN T rfl rfl rfl (by exact (rfl : _ = [_, _, _, _, _, _, _, _, _, _, _])) (by exact (rfl : _ = [_, _, _, _, _, _, _, _, _, _, _])) ?_
    refine RL.nil _ _ _ _ ?_
    refine hK5 _ _ _ ?_
    refine SW.seq_k fun K6 hK6 => ?_
    refine SW.region _ _ _ _ ?_
    refine RL.p T ?_
    refine RL.q (QV.vN T rfl rfl rfl rfl rfl (by exact (rfl : _ = [_, _, _, _, _, _, _, _, _, _, _]))) ?_
    refine RL.c fun11 (fun hs => pushU bq _ 2 0 0 0 _ (by repeat first | exact At.head _ _ | assumption | apply At.tail | apply At.app) [] (RingIs.nil _) rfl (by omega) (by omega) ⟨F1, none, 0, 0⟩ F1_ok) ?_
    rintro _ _ ⟨D1, R1, n1, o1, L1, rfl, e, hL1, hn1, hf1, ho1, hg1⟩; obtain rfl := e.symm
    obtain rfl : n1 = 1 := by rw [hn1, ← frs_len, hf1]; decide +kernel
    obtain rfl : o1 = 0 := by rw [ho1]; decide +kernel
    refine RL.p T ?_
    refine RL.p T ?_
    refine RL.p T ?_
    refine RL.p T ?_
    refine RL.p T ?_
    refine RL.nil _ _ _ _ ?_
    refine hK6 _ _ _ ?_
    refine SW.seq_k fun K7 hK7 => ?_
    refine SW.region _ _ _ _ ?_
    refine RL.p T ?_
    refine RL.q (QV.vN T rfl rfl rfl rfl rfl (by exact (rfl : _ = [_, _, _, _, _, _, _, _, _, _, _]))) ?_
    refine RL.c fun11 (fun hs => pushU bq R1 2 0 1 0 _ (by repeat first | exact At.head _ _ | assumption | apply At.tail | apply At.app) L1 hL1 hn1 (by omega) (by omega) ⟨F1, none, 0, 0⟩ F1_ok) ?_
    rintro _ _ ⟨D2, R2, n2, o2, L2, rfl, e, hL2, hn2, hf2, ho2, hg2⟩; obtain rfl := e.symm
    obtain rfl : n2 = 2 := by rw [hn2, ← frs_len, hf2, hf1]; decide +kernel
    obtain rfl : o2 = 0 := by rw [ho2]; decide +kernel
    refine RL.p T ?_
    refine RL.p T ?_
    refine RL.p T ?_
    refine RL.p T ?_
    refine RL.p T ?_
    refine RL.nil _ _ _ _ ?_
    refine hK7 _ _ _ ?_
    refine SW.seq_k fun K8 hK8 => ?_
    refine SW.region _ _ _ _ ?_
    refine RL.p T ?_
    refine RL.q (QV.vN T rfl rfl rfl rfl rfl (by exact (rfl : _ = [_, _, _, _, _, _, _, _, _, _, _]))) ?_
    refine RL.c fun11 (fun hs => pushU bq R2 2 0 2 0 _ (by repeat first | exact At.head _ _ | assumption | apply At.tail | apply At.app) L2 hL2 hn2 (by omega) (by omega) ⟨F1, none, 0, 0⟩ F1_ok) ?_
    rintro _ _ ⟨D3, R3, n3, o3, L3, rfl, e, hL3, hn3, hf3, ho3, hg3⟩; obtain rfl := e.symm
    obtain rfl : n3 = 2 := by rw [hn3, ← frs_len, hf3, hf2, hf1]; decide +kernel
    obtain rfl : o3 = 1 := by rw [ho3]; decide +kernel
    refine RL.p T ?_
    refine RL.p T ?_
    refine RL.p T ?_
    refine RL.p T ?_
    refine RL.p T ?_
    refine RL.nil _ _ _ _ ?_
    refine hK8 _ _ _ ?_
    refine SW.seq_k fun K9 hK9 => ?_
    refine SW.region _ _ _ _ ?_
    refine RL.p T ?_
    refine RL.nil _ _ _ _ ?_
    refine hK9 _ _ _ ?_
    refine SW.seq_k fun K10 hK10 => ?_
    refine SW.region _ _ _ _ ?_
    refine RL.p T ?_
    refine RL.c fun15 (fun hs => pop_nil) ?_
    rintro _ _ ⟨rfl, e⟩; obtain rfl := e.symm
    refine RL.p T ?_
    refine RL.p T ?_
    refine RL.p T ?_
    refine RL.s ?_
    refine NV.alloc T rfl rfl rfl (by exact (rfl : _ = [_, _, _, _, _, _, _, _, _, _, _])) ?_
    intro b11_1
    refine RL.s ?_
    refine NV.sN T rfl rfl rfl (by exact (rfl : _ = [_, _, _, _, _, _, _, _, _, _, _])) (by exact (rfl : _ = [_, _, _, _, _, _, _, _, _, _, _])) ?_
    refine RL.p T ?_
    refine RL.nil _ _ _ _ ?_
    refine hK10 _ _ _ ?_
    refine SW.seq_k fun K11 hK11 => ?_
    refine SW.region _ _ _ _ ?_
    refine RL.p T ?_
    refine RL.p T ?_
    refine RL.join (fr1 := ?_) 1 48 true [49] (fun hs1 hj => ?_) ?_ ?_
    rotate_left
    ·have hs1j := hs1
     try simp only [decide_eq_true_eq, Bool.not_eq_true', decide_eq_false_iff_not, Bool.not_eq_false', Int.not_lt, Int.not_le, Int.toNat_natCast, Bool.and_eq_true, Bool.or_eq_true, Bool.and_eq_false_iff, Bool.or_eq_false_iff] at hs1
     refine RL.p T ?_
     exact hj
    ·repeat first | exact Mx.refl | exact Mx.mix | refine Mx.put rfl ?_ | refine Mx.upd rfl ?_ | refine Mx.updl rfl ?_ | refine Mx.fin rfl ?_ | refine Mx.inner rfl ?_ | refine Mx.none ?_
    refine RL.and ?_
    refine RL.p T ?_
    refine RL.join (fr1 := ?_) 2 51 true [52, 53] (fun hs2 hj => ?_) ?_ ?_
    rotate_left
    ·have hs2j := hs2
     try simp only [decide_eq_true_eq, Bool.not_eq_true', decide_eq_false_iff_not, Bool.not_eq_false', Int.not_lt, Int.not_le, Int.toNat_natCast, Bool.and_eq_true, Bool.or_eq_true, Bool.and_eq_false_iff, Bool.or_eq_false_iff] at hs2
     refine RL.p T ?_
     refine RL.p T ?_
     exact hj
    ·repeat first | exact Mx.refl | exact Mx.mix | refine Mx.put rfl ?_ | refine Mx.upd rfl ?_ | refine Mx.updl rfl ?_ | refine Mx.fin rfl ?_ | refine Mx.inner rfl ?_ | refine Mx.none ?_
    refine RL.and ?_
    refine RL.p T ?_
    refine RL.join (fr1 := ?_) 3 55 true [56, 57, 58] (fun hs3 hj => ?_) ?_ ?_
    rotate_left
    ·have hs3j := hs3
     try simp only [decide_eq_true_eq, Bool.not_eq_true', decide_eq_false_iff_not, Bool.not_eq_false', Int.not_lt, Int.not_le, Int.toNat_natCast, Bool.and_eq_true, Bool.or_eq_true, Bool.and_eq_false_iff, Bool.or_eq_false_iff] at hs3
     refine RL.p T ?_
     refine RL.c fun14 (fun hs => fover bq R3 2 0 2 1 _ (by repeat first | exact At.head _ _ | assumption | apply At.tail | apply At.app)) ?_
     rintro _ _ ⟨rfl, e⟩; obtain rfl := e.symm
     refine RL.p T ?_
     exact hj
    ·repeat first | exact Mx.refl | exact Mx.mix | refine Mx.put rfl ?_ | refine Mx.upd rfl ?_ | refine Mx.updl rfl ?_ | refine Mx.fin rfl ?_ | refine Mx.inner rfl ?_ | refine Mx.none ?_
    refine RL.and ?_
    refine RL.p T ?_
    refine RL.join (fr1 := ?_) 3 60 true [61, 62, 63] (fun hs4 hj => ?_) ?_ ?_
    rotate_left
    ·have hs4j := hs4
     try simp only [decide_eq_true_eq, Bool.not_eq_true', decide_eq_false_iff_not, Bool.not_eq_false', Int.not_lt, Int.not_le, Int.toNat_natCast, Bool.and_eq_true, Bool.or_eq_true, Bool.and_eq_false_iff, Bool.or_eq_false_iff] at hs4
     refine RL.p T ?_
     refine RL.c fun13 (fun hs => flen bq R3 2 0 2 1 _ (by repeat first | exact At.head _ _ | assumption | apply At.tail | apply At.app)) ?_
     rintro _ _ ⟨rfl, e⟩; obtain rfl := e.symm
     refine RL.p T ?_
     exact hj
    ·repeat first | exact Mx.refl | exact Mx.mix | refine Mx.put rfl ?_ | refine Mx.upd rfl ?_ | refine Mx.updl rfl ?_ | refine Mx.fin rfl ?_ | refine Mx.inner rfl ?_ | refine Mx.none ?_
    refine RL.and ?_
    refine RL.p T ?_
    refine RL.join (fr1 := ?_) 2 65 true [66, 67] (fun hs5 hj => ?_) ?_ ?_
    rotate_left
    ·have hs5j := hs5
     try simp only [decide_eq_true_eq, Bool.not_eq_true', decide_eq_false_iff_not, Bool.not_eq_false', Int.not_lt, Int.not_le, Int.toNat_natCast, Bool.and_eq_true, Bool.or_eq_true, Bool.and_eq_false_iff, Bool.or_eq_false_iff] at hs5
     refine RL.p T ?_
     refine RL.p T ?_
     exact hj
    ·repeat first | exact Mx.refl | exact Mx.mix | refine Mx.put rfl ?_ | refine Mx.upd rfl ?_ | refine Mx.updl rfl ?_ | refine Mx.fin rfl ?_ | refine Mx.inner rfl ?_ | refine Mx.none ?_
    refine RL.and ?_
    refine RL.p T ?_
    refine RL.nil _ _ _ _ ?_
    refine hK11 _ _ _ ?_
    refine SW.ret ?_
    refine retQ.rr (H) ?_
    clear hK11 K11 hK10 K10 hK9 K9 hK8 K8 hK7 K7 hK6 K6 hK5 K5 hK3 K3 hK2 K2 hK1 K1 hK0 K0
    first
      | exact ⟨rfl, rfl⟩
      | (refine ⟨boolE ?_, rfl⟩; decide +kernel)
    )
end Go.Proofs.Ytojghialjpianaa.M
