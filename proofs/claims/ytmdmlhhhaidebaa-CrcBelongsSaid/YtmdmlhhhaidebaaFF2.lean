import Derived.Test.YtmdmlhhhaidebaaProg
import Derived.Test.YtmdmlhhhaidebaaFE2
set_option linter.unusedVariables false
set_option linter.unusedSimpArgs false
namespace Go.Proofs.Ytmdmlhhhaidebaa.M
open Go Go.Sep Go.Proofs
set_option maxRecDepth 10000
set_option maxHeartbeats 2000000
theorem add_ok {w0 : World} {H : List Chunk} (m : Int) (sa : Option Addr) (n c : Nat) (es : List Int) (hR : Rd w0 H sa n c 1 (es.map (.int .u8))) (hn : n = es.length) (hm : n ≤ 140737488351232) (hB : Byte es) (hk : kz m ≠ 0) (hc : chk es = 0) : SC Try.prog w0 17 #[.int .i64 m, .slice sa n c] H (fun v H' => ∃ a c, v = .tuple #[.slice a (es ++ bitsS (((crcN (kz m) (kp m) (ks m) es) : Nat) : Int) (kz m)).length c, .int .i64 0] ∧ H' = .row a (es ++ bitsS (((crcN (kz m) (kp m) (ks m) es) : Nat) : Int) (kz m)).length c 5 1 ((es ++ bitsS (((crcN (kz m) (kp m) (ks m) es) : Nat) : Int) (kz m)).map (.int .u8)) :: H) := by
 refine SC.enter Try.func17 rfl (Nat.le_of_ble_eq_true rfl) ?_
 refine SW.seq_k fun K0 hK0 => ?_
 have hKO := kind_ok m hk
 have hkm := kind_max m
 have hlo := hKO.lo
 have hl := (chk_zero.1 hc).1
 have hmv := moreV_ok (n := m) (s := ks m) (es := es) hk hc hKO.s
 have hS : (crcN (kz m) (kp m) (ks m) es) < 2 ^ kz m := crcN_lt hKO.p es _ hKO.s
 have h32 : 2 ^ kz m ≤ 2 ^ 32 := Nat.pow_le_pow_right (by omega) hkm
 have hav : addV m es = (es ++ bitsS (((crcN (kz m) (kp m) (ks m) es) : Nat) : Int) (kz m), 0) := addV_ok hk hc
 have hfd : ((((crcN (kz m) (kp m) (ks m) es) : Nat) : Int)).fdiv (2 ^ (min ((kz m : Nat) : Int).toNat IntKind.u64.bits)) ≤ 0 := crc_put hS (by omega)
 have hbl := bitsS_length (((crcN (kz m) (kp m) (ks m) es) : Nat) : Int) (kz m)
 refine SW.region _ _ _ _ ?_
 refine RL.p T ?_
 refine RL.p T ?_
 refine RL.nil _ _ _ _ ?_
 refine hK0 _ _ _ ?_
 refine SW.seq_k fun K1 hK1 => ?_
 refine SW.region _ _ _ _ ?_
 refine RL.p T ?_
 refine RL.p T ?_
 refine RL.c fun11 (fun hs => ((csum m sa n c es hR hn hm hB).mono (fun v H' hh => by rw [hmv] at hh; exact hh))) ?_
 rintro _ _ ⟨rfl, e⟩; obtain rfl := e.symm
 refine RL.p T ?_
 refine RL.p T ?_
 refine RL.p T ?_
 refine RL.p T ?_
 refine RL.p T ?_
 refine RL.nil _ _ _ _ ?_
 refine hK1 _ _ _ ?_
 refine SW.seq_k fun K2 hK2 => ?_
 refine SW.seq_k fun K3 hK3 => ?_
 refine SW.region _ _ _ _ ?_
 refine RL.p T ?_
 refine RL.p T ?_
 refine RL.nil _ _ _ _ ?_
 refine hK3 _ _ _ ?_
 refine SW.cs (fun hc0 => ?_) (fun hc0 => ?_)
 ·skip
  first
   | (exfalso; first | omega | contradiction | (simp at *; done))
   | (
    refine SW.seq_k fun K4 hK4 => ?_
    refine SW.region _ _ _ _ ?_
    refine RL.p T ?_
    refine RL.p T ?_
    refine RL.p T ?_
    refine RL.nil _ _ _ _ ?_
    refine hK4 _ _ _ ?_
    refine SW.ret ?_
    refine retQ.rr ((.row ax (es ++ bitsS (((crcN (kz m) (kp m) (ks m) es) : Nat) : Int) (kz m)).length cx 5 1 ((es ++ bitsS (((crcN (kz m) (kp m) (ks m) es) : Nat) : Int) (kz m)).map (.int .u8)) :: H)) ?_
    clear hK4 K4 hK3 K3 hK2 K2 hK1 K1 hK0 K0
    exact ⟨_, _, rfl, rfl⟩
    )
 ·skip
  first
   | (exfalso; first | omega | contradiction | (simp at *; done))
   | (
    refine SW.skip ?_
    refine hK2 _ _ _ ?_
    refine SW.seq_k fun K5 hK5 => ?_
    refine SW.region _ _ _ _ ?_
    refine RL.p T ?_
    refine RL.p T ?_
    refine RL.c fun16 (fun hs => csize m) ?_
    rintro _ _ ⟨rfl, e⟩; obtain rfl := e.symm
    refine RL.c fun27 (fun hs => bput_ok ((crcN (kz m) (kp m) (ks m) es) : Nat) (kz m) (by omega) (by omega) (by omega) hfd) ?_
    rintro _ _ ⟨ab, cb, rfl, e⟩; obtain rfl := e.symm
    refine RL.p T ?_
    refine RL.p T ?_
    refine RL.p T ?_
    refine RL.p T ?_
    refine RL.p T ?_
    refine RL.nil _ _ _ _ ?_
    refine hK5 _ _ _ ?_
    refine SW.seq_k fun K6 hK6 => ?_
    refine SW.region _ _ _ _ ?_
    refine RL.p T ?_
    refine RL.p T ?_
    refine RL.bs T rfl rfl rfl (by exact (rfl : _ = some [_, _])) (fun b27_0 => ?_)
    refine RL.c fun28 (fun hs => concat [⟨sa, n, c, es⟩, ⟨ab, kz m, cb, bitsS (((crcN (kz m) (kp m) (ks m) es) : Nat) : Int) (kz m)⟩] _ 2 2 (Rd.rowh hs (At.head _ _)) rfl (by omega) (fun k => by
      rcases k with _ | _ | k
      · exact ⟨hn, hm, hB, hR.cons.cons⟩
      · exact ⟨hbl.symm, by show kz m ≤ _; omega, (bitsS_bit _ _).byte, (Rd.rowh hs (At.tail (At.head _ _)))⟩
      · exact SlOk.dflt) (by simp only [catD, List.flatMap_cons, List.flatMap_nil, List.length_append, List.append_nil]; omega)) ?_
    rintro _ _ ⟨ax, cx, rfl, e⟩; obtain rfl := e.symm
    rw [show catD [⟨sa, n, c, es⟩, ⟨ab, kz m, cb, bitsS (((crcN (kz m) (kp m) (ks m) es) : Nat) : Int) (kz m)⟩] = es ++ bitsS (((crcN (kz m) (kp m) (ks m) es) : Nat) : Int) (kz m) by simp [catD]]
    refine RL.p T ?_
    refine RL.p T ?_
    refine RL.p T ?_
    refine RL.nil _ _ _ _ ?_
    refine hK6 _ _ _ ?_
    refine SW.ret ?_
    refine retQ.rr ((.row ax (es ++ bitsS (((crcN (kz m) (kp m) (ks m) es) : Nat) : Int) (kz m)).length cx 5 1 ((es ++ bitsS (((crcN (kz m) (kp m) (ks m) es) : Nat) : Int) (kz m)).map (.int .u8)) :: H)) ?_
    clear hK6 K6 hK5 K5 hK3 K3 hK2 K2 hK1 K1 hK0 K0
    exact ⟨_, _, rfl, rfl⟩
    )
theorem add_bad {w0 : World} {H : List Chunk} (m : Int) (sa : Option Addr) (n c : Nat) (es : List Int) (hR : Rd w0 H sa n c 1 (es.map (.int .u8))) (hn : n = es.length) (hm : n ≤ 140737488351232) (hB : Byte es) (hbad : kz m = 0 ∨ chk es ≠ 0) : SC Try.prog w0 17 #[.int .i64 m, .slice sa n c] H (fun v H' => v = .tuple #[.slice none 0 0, .int .i64 2] ∧ H' = H) := by
 refine SC.enter Try.func17 rfl (Nat.le_of_ble_eq_true rfl) ?_
 refine SW.seq_k fun K0 hK0 => ?_
 have hmv := moreV_bad (n := m) (s := ks m) (es := es) (by omega)
 refine SW.region _ _ _ _ ?_
 refine RL.p T ?_
 refine RL.p T ?_
 refine RL.nil _ _ _ _ ?_
 refine hK0 _ _ _ ?_
 refine SW.seq_k fun K1 hK1 => ?_
 refine SW.region _ _ _ _ ?_
 refine RL.p T ?_
 refine RL.p T ?_
 refine RL.c fun11 (fun hs => ((csum m sa n c es hR hn hm hB).mono (fun v H' hh => by rw [hmv] at hh; exact hh))) ?_
 rintro _ _ ⟨rfl, e⟩; obtain rfl := e.symm
 refine RL.p T ?_
 refine RL.p T ?_
 refine RL.p T ?_
 refine RL.p T ?_
 refine RL.p T ?_
 refine RL.nil _ _ _ _ ?_
 refine hK1 _ _ _ ?_
 refine SW.seq_k fun K2 hK2 => ?_
 refine SW.seq_k fun K3 hK3 => ?_
 refine SW.region _ _ _ _ ?_
 refine RL.p T ?_
 refine RL.p T ?_
 refine RL.nil _ _ _ _ ?_
 refine hK3 _ _ _ ?_
 refine SW.cs (fun hc0 => ?_) (fun hc0 => ?_)
 ·skip
  first
   | (exfalso; first | omega | contradiction | (simp at *; done))
   | (
    refine SW.seq_k fun K4 hK4 => ?_
    refine SW.region _ _ _ _ ?_
    refine RL.p T ?_
    refine RL.p T ?_
    refine RL.p T ?_
    refine RL.nil _ _ _ _ ?_
    refine hK4 _ _ _ ?_
    refine SW.ret ?_
    refine retQ.rr (H) ?_
    clear hK4 K4 hK3 K3 hK2 K2 hK1 K1 hK0 K0
    exact ⟨rfl, rfl⟩
    )
 ·skip
  exfalso; first | omega | contradiction | (simp at *; done)
theorem add {w0 : World} {H : List Chunk} (m : Int) (sa : Option Addr) (n c : Nat) (es : List Int) (hR : Rd w0 H sa n c 1 (es.map (.int .u8))) (hn : n = es.length) (hm : n ≤ 140737488351232) (hB : Byte es) : SC Try.prog w0 17 #[.int .i64 m, .slice sa n c] H (fun v H' => ∃ a c, v = .tuple #[.slice a (addV m es).1.length c, .int .i64 (addV m es).2] ∧ H' = (.row a (addV m es).1.length c 5 1 ((addV m es).1.map (.int .u8)) :: H)) := by
  by_cases h : kz m = 0 ∨ chk es ≠ 0
  · rw [addV_bad h]
    refine SC.nilrow 5 1 (SC.mono (add_bad m sa n c es hR.cons hn hm hB h) ?_)
    rintro _ _ ⟨rfl, rfl⟩; exact ⟨none, 0, rfl, rfl⟩
  · rw [addV_ok (by omega) (by omega)]
    exact add_ok m sa n c es hR hn hm hB (by omega) (by omega)
theorem radd_ok {w0 : World} {H : List Chunk} (m : Int) (sa : Option Addr) (n c : Nat) (es : List Int) (hR : Rd w0 H sa n c 1 (es.map (.int .u8))) (hn : n = es.length) (hm : n ≤ 140737488351232) (hB : Byte es) (hk : kz m ≠ 0) (hc : chk es = 0) : SC Try.prog w0 18 #[.int .i64 m, .slice sa n c] H (fun v H' => ∃ a c, v = .tuple #[.slice a (es ++ bitsS (((crcN (kz m) (kp m) (ks m) es) : Nat) : Int) (kz m)).length c, .int .i64 0] ∧ H' = .row a (es ++ bitsS (((crcN (kz m) (kp m) (ks m) es) : Nat) : Int) (kz m)).length c 5 1 ((es ++ bitsS (((crcN (kz m) (kp m) (ks m) es) : Nat) : Int) (kz m)).map (.int .u8)) :: H) := by
 refine SC.enter Try.func18 rfl (Nat.le_of_ble_eq_true rfl) ?_
 refine SW.seq_k fun K0 hK0 => ?_
 have hKO := kind_ok m hk
 have hkm := kind_max m
 have hlo := hKO.lo
 have hl := (chk_zero.1 hc).1
 have hmv := moreV_ok (n := m) (s := ks m) (es := es) hk hc hKO.s
 have hS : (crcN (kz m) (kp m) (ks m) es) < 2 ^ kz m := crcN_lt hKO.p es _ hKO.s
 have h32 : 2 ^ kz m ≤ 2 ^ 32 := Nat.pow_le_pow_right (by omega) hkm
 have hav : addV m es = (es ++ bitsS (((crcN (kz m) (kp m) (ks m) es) : Nat) : Int) (kz m), 0) := addV_ok hk hc
 have hfd : ((((crcN (kz m) (kp m) (ks m) es) : Nat) : Int)).fdiv (2 ^ (min ((kz m : Nat) : Int).toNat IntKind.u64.bits)) ≤ 0 := crc_put hS (by omega)
 have hbl := bitsS_length (((crcN (kz m) (kp m) (ks m) es) : Nat) : Int) (kz m)
 refine SW.region _ _ _ _ ?_
 refine RL.p T ?_
 refine RL.p T ?_
 refine RL.nil _ _ _ _ ?_
 refine hK0 _ _ _ ?_
 refine SW.seq_k fun K1 hK1 => ?_
 refine SW.region _ _ _ _ ?_
 refine RL.p T ?_
 refine RL.p T ?_
 refine RL.c fun12 (fun hs => ((rsum m sa n c es hR hn hm hB).mono (fun v H' hh => by rw [hmv] at hh; exact hh))) ?_
 rintro _ _ ⟨rfl, e⟩; obtain rfl := e.symm
 refine RL.p T ?_
 refine RL.p T ?_
 refine RL.p T ?_
 refine RL.p T ?_
 refine RL.p T ?_
 refine RL.nil _ _ _ _ ?_
 refine hK1 _ _ _ ?_
 refine SW.seq_k fun K2 hK2 => ?_
 refine SW.seq_k fun K3 hK3 => ?_
 refine SW.region _ _ _ _ ?_
 refine RL.p T ?_
 refine RL.p T ?_
 refine RL.nil _ _ _ _ ?_
 refine hK3 _ _ _ ?_
 refine SW.cs (fun hc0 => ?_) (fun hc0 => ?_)
 ·skip
  first
   | (exfalso; first | omega | contradiction | (simp at *; done))
   | (
    refine SW.seq_k fun K4 hK4 => ?_
    refine SW.region _ _ _ _ ?_
    refine RL.p T ?_
    refine RL.p T ?_
    refine RL.p T ?_
    refine RL.nil _ _ _ _ ?_
    refine hK4 _ _ _ ?_
    refine SW.ret ?_
    have hlen : 0 + n + kz m = (es ++ bitsS (((crcN (kz m) (kp m) (ks m) es) : Nat) : Int) (kz m)).length := by rw [List.length_append, hbl]; omega
    rw [hlen, List.nil_append]
    refine retQ.rr ((.row a1_ (es ++ bitsS (((crcN (kz m) (kp m) (ks m) es) : Nat) : Int) (kz m)).length c1_ 5 1 ((es ++ bitsS (((crcN (kz m) (kp m) (ks m) es) : Nat) : Int) (kz m)).map (.int .u8)) :: H)) ?_
    clear hK4 K4 hK3 K3 hK2 K2 hK1 K1 hK0 K0
    exact ⟨_, _, rfl, rfl⟩
    )
 ·skip
  first
   | (exfalso; first | omega | contradiction | (simp at *; done))
   | (
    refine SW.skip ?_
    refine hK2 _ _ _ ?_
    refine SW.seq_k fun K5 hK5 => ?_
    refine SW.region _ _ _ _ ?_
    refine RL.p T ?_
    refine RL.c fun15 (fun hs => rof m) ?_
    rintro _ _ ⟨rfl, e⟩; obtain rfl := e.symm
    refine RL.p T ?_
    refine RL.p T ?_
    refine RL.p T ?_
    refine RL.p T ?_
    refine RL.p T ?_
    refine RL.p T ?_
    refine RL.p T ?_
    refine RL.nil _ _ _ _ ?_
    refine hK5 _ _ _ ?_
    refine SW.seq_k fun K6 hK6 => ?_
    refine SW.region _ _ _ _ ?_
    refine RL.bs T rfl rfl rfl (by exact (rfl : _ = some [])) (fun b26_0 => ?_)
    refine RL.p T ?_
    refine RL.apI (ki := .u8) (xs := []) (ys := es) T (fun a0_ c0_ => ?_) (hR := fun hs => hR.cons)
    refine RL.p T ?_
    refine RL.p T ?_
    refine RL.c fun29 (fun hs => rbits ((crcN (kz m) (kp m) (ks m) es) : Nat) (kz m) (by omega) (by omega) (by omega)) ?_
    rintro _ _ ⟨ab, cb, rfl, e⟩; obtain rfl := e.symm
    refine RL.apI (ki := .u8) (ys := bitsS (((crcN (kz m) (kp m) (ks m) es) : Nat) : Int) (kz m)) T (fun a1_ c1_ => ?_) (hR := fun hs => Rd.rowh hs (At.head _ _))
    refine RL.p T ?_
    refine RL.p T ?_
    refine RL.drop ?_
    refine RL.nil _ _ _ _ ?_
    refine hK6 _ _ _ ?_
    refine SW.ret ?_
    have hlen : 0 + n + kz m = (es ++ bitsS (((crcN (kz m) (kp m) (ks m) es) : Nat) : Int) (kz m)).length := by rw [List.length_append, hbl]; omega
    rw [hlen, List.nil_append]
    refine retQ.rr ((.row a1_ (es ++ bitsS (((crcN (kz m) (kp m) (ks m) es) : Nat) : Int) (kz m)).length c1_ 5 1 ((es ++ bitsS (((crcN (kz m) (kp m) (ks m) es) : Nat) : Int) (kz m)).map (.int .u8)) :: H)) ?_
    clear hK6 K6 hK5 K5 hK3 K3 hK2 K2 hK1 K1 hK0 K0
    exact ⟨_, _, rfl, rfl⟩
    )
theorem radd_bad {w0 : World} {H : List Chunk} (m : Int) (sa : Option Addr) (n c : Nat) (es : List Int) (hR : Rd w0 H sa n c 1 (es.map (.int .u8))) (hn : n = es.length) (hm : n ≤ 140737488351232) (hB : Byte es) (hbad : kz m = 0 ∨ chk es ≠ 0) : SC Try.prog w0 18 #[.int .i64 m, .slice sa n c] H (fun v H' => v = .tuple #[.slice none 0 0, .int .i64 2] ∧ H' = H) := by
 refine SC.enter Try.func18 rfl (Nat.le_of_ble_eq_true rfl) ?_
 refine SW.seq_k fun K0 hK0 => ?_
 have hmv := moreV_bad (n := m) (s := ks m) (es := es) (by omega)
 refine SW.region _ _ _ _ ?_
 refine RL.p T ?_
 refine RL.p T ?_
 refine RL.nil _ _ _ _ ?_
 refine hK0 _ _ _ ?_
 refine SW.seq_k fun K1 hK1 => ?_
 refine SW.region _ _ _ _ ?_
 refine RL.p T ?_
 refine RL.p T ?_
 refine RL.c fun12 (fun hs => ((rsum m sa n c es hR hn hm hB).mono (fun v H' hh => by rw [hmv] at hh; exact hh))) ?_
 rintro _ _ ⟨rfl, e⟩; obtain rfl := e.symm
 refine RL.p T ?_
 refine RL.p T ?_
 refine RL.p T ?_
 refine RL.p T ?_
 refine RL.p T ?_
 refine RL.nil _ _ _ _ ?_
 refine hK1 _ _ _ ?_
 refine SW.seq_k fun K2 hK2 => ?_
 refine SW.seq_k fun K3 hK3 => ?_
 refine SW.region _ _ _ _ ?_
 refine RL.p T ?_
 refine RL.p T ?_
 refine RL.nil _ _ _ _ ?_
 refine hK3 _ _ _ ?_
 refine SW.cs (fun hc0 => ?_) (fun hc0 => ?_)
 ·skip
  first
   | (exfalso; first | omega | contradiction | (simp at *; done))
   | (
    refine SW.seq_k fun K4 hK4 => ?_
    refine SW.region _ _ _ _ ?_
    refine RL.p T ?_
    refine RL.p T ?_
    refine RL.p T ?_
    refine RL.nil _ _ _ _ ?_
    refine hK4 _ _ _ ?_
    refine SW.ret ?_
    refine retQ.rr (H) ?_
    clear hK4 K4 hK3 K3 hK2 K2 hK1 K1 hK0 K0
    exact ⟨rfl, rfl⟩
    )
 ·skip
  exfalso; first | omega | contradiction | (simp at *; done)
theorem radd {w0 : World} {H : List Chunk} (m : Int) (sa : Option Addr) (n c : Nat) (es : List Int) (hR : Rd w0 H sa n c 1 (es.map (.int .u8))) (hn : n = es.length) (hm : n ≤ 140737488351232) (hB : Byte es) : SC Try.prog w0 18 #[.int .i64 m, .slice sa n c] H (fun v H' => ∃ a c, v = .tuple #[.slice a (addV m es).1.length c, .int .i64 (addV m es).2] ∧ H' = (.row a (addV m es).1.length c 5 1 ((addV m es).1.map (.int .u8)) :: H)) := by
  by_cases h : kz m = 0 ∨ chk es ≠ 0
  · rw [addV_bad h]
    refine SC.nilrow 5 1 (SC.mono (radd_bad m sa n c es hR.cons hn hm hB h) ?_)
    rintro _ _ ⟨rfl, rfl⟩; exact ⟨none, 0, rfl, rfl⟩
  · rw [addV_ok (by omega) (by omega)]
    exact radd_ok m sa n c es hR hn hm hB (by omega) (by omega)
theorem fits {w0 : World} {H : List Chunk} (m : Int) (sa : Option Addr) (n c : Nat) (es : List Int) (hR : Rd w0 H sa n c 1 (es.map (.int .u8))) (hn : n = es.length) (hm : n ≤ 140737488351232) (hB : Byte es) : SC Try.prog w0 20 #[.int .i64 m, .slice sa n c] H (fun v H' => v = .bool (fitsV m es) ∧ H' = H) := by
 refine SC.enter Try.func20 rfl (Nat.le_of_ble_eq_true rfl) ?_
 refine SW.seq_k fun K0 hK0 => ?_
 have hkm := kind_max m
 have hsuf := hR.suf (n - kz m) (by omega : n - kz m ≤ n)
 have hpre := hR.pre (n - kz m) (by omega)
 have hl2 : (es.drop (n - kz m)).length = n - (n - kz m) := by rw [List.length_drop, hn]
 have hl1 : (es.take (n - kz m)).length = n - kz m - 0 := by rw [List.length_take]; omega
 have hc1 : chk es = 0 → chk (es.take (n - kz m)) = 0 := chk_take
 have hc2 : chk es = 0 → chk (es.drop (n - kz m)) = 0 := chk_drop
 have hmv : kz m ≠ 0 → chk es = 0 → _ := fun h1 h2 => moreV_ok (n := m) (s := ks m) (es := es.take (n - kz m)) h1 (hc1 h2) (kind_ok m h1).s
 refine SW.region _ _ _ _ ?_
 refine RL.p T ?_
 refine RL.nil _ _ _ _ ?_
 refine hK0 _ _ _ ?_
 refine SW.seq_k fun K1 hK1 => ?_
 refine SW.region _ _ _ _ ?_
 refine RL.p T ?_
 refine RL.c fun16 (fun hs => csize m) ?_
 rintro _ _ ⟨rfl, e⟩; obtain rfl := e.symm
 refine RL.p T ?_
 refine RL.nil _ _ _ _ ?_
 refine hK1 _ _ _ ?_
 refine SW.seq_k fun K2 hK2 => ?_
 refine SW.seq_k fun K3 hK3 => ?_
 refine SW.region _ _ _ _ ?_
 refine RL.p T ?_
 refine RL.p T ?_
 refine RL.p T ?_
 refine RL.join (fr1 := ?_) 4 14 false [15, 16, 17, 18] (fun hs0 hj => ?_) ?_ ?_
 rotate_left
 ·have hs0j := hs0
  try simp only [decide_eq_true_eq, Bool.not_eq_true', decide_eq_false_iff_not, Bool.not_eq_false', Int.not_lt, Int.not_le, Int.toNat_natCast, Bool.and_eq_true, Bool.or_eq_true, Bool.and_eq_false_iff, Bool.or_eq_false_iff] at hs0
  refine RL.p T ?_
  refine RL.p T ?_
  refine RL.p T ?_
  refine RL.p T ?_
  exact hj
 ·repeat first | exact Mx.refl | exact Mx.mix | refine Mx.put rfl ?_ | refine Mx.upd rfl ?_ | refine Mx.updl rfl ?_ | refine Mx.fin rfl ?_ | refine Mx.inner rfl ?_ | refine Mx.none ?_
 refine RL.or ?_
 refine RL.p T ?_
 refine RL.join (fr1 := ?_) 3 20 false [21, 22, 23] (fun hs1 hj => ?_) ?_ ?_
 rotate_left
 ·have hs1j := hs1
  try simp only [decide_eq_true_eq, Bool.not_eq_true', decide_eq_false_iff_not, Bool.not_eq_false', Int.not_lt, Int.not_le, Int.toNat_natCast, Bool.and_eq_true, Bool.or_eq_true, Bool.and_eq_false_iff, Bool.or_eq_false_iff] at hs1
  refine RL.p T ?_
  refine RL.c fun22 (fun hs => check sa n c es hR hn hm) ?_
  rintro _ _ ⟨rfl, e⟩; obtain rfl := e.symm
  refine RL.p T ?_
  exact hj
 ·repeat first | exact Mx.refl | exact Mx.mix | refine Mx.put rfl ?_ | refine Mx.upd rfl ?_ | refine Mx.updl rfl ?_ | refine Mx.fin rfl ?_ | refine Mx.inner rfl ?_ | refine Mx.none ?_
 refine RL.or ?_
 refine RL.nil _ _ _ _ ?_
 refine hK3 _ _ _ ?_
 refine SW.cs (fun hc0 => ?_) (fun hc0 => ?_)
 ·skip
  first
   | (exfalso; first | omega | contradiction | (simp at *; done))
   | (
    refine SW.seq_k fun K4 hK4 => ?_
    refine SW.region _ _ _ _ ?_
    refine RL.p T ?_
    refine RL.nil _ _ _ _ ?_
    refine hK4 _ _ _ ?_
    refine SW.ret ?_
    refine retQ.rr (H) ?_
    clear hK4 K4 hK3 K3 hK2 K2 hK1 K1 hK0 K0
    first
      | exact ⟨by rw [fitsV_no (by omega)]; rfl, rfl⟩
      | (refine ⟨boolE ?_, rfl⟩
         rw [hmv (by omega) (by omega), fitsV_yes (by omega) (by omega) (by omega) hn]
         simp [eq_comm])
    )
 ·skip
  first
   | (exfalso; first | omega | contradiction | (simp at *; done))
   | (
    refine SW.skip ?_
    refine hK2 _ _ _ ?_
    refine SW.seq_k fun K5 hK5 => ?_
    refine SW.region _ _ _ _ ?_
    refine RL.p T ?_
    refine RL.p T ?_
    refine RL.p T ?_
    refine RL.p T ?_
    first | refine RL.ar ?_ | refine RL.p T ?_
    refine RL.sl T ?_ (l1 := n - kz m)
    refine RL.c fun30 (fun hs => get_ok _ _ _ (es.drop (n - kz m)) hsuf hl2.symm (by omega) (by omega) (hc2 (by omega)) (chk_bit (hB.drop _) (hc2 (by omega)))) ?_
    rintro _ _ ⟨rfl, e⟩; obtain rfl := e.symm
    refine RL.p T ?_
    refine RL.p T ?_
    refine RL.p T ?_
    refine RL.p T ?_
    refine RL.p T ?_
    refine RL.nil _ _ _ _ ?_
    refine hK5 _ _ _ ?_
    refine SW.seq_k fun K6 hK6 => ?_
    refine SW.region _ _ _ _ ?_
    refine RL.p T ?_
    refine RL.p T ?_
    refine RL.p T ?_
    refine RL.p T ?_
    refine RL.p T ?_
    first | refine RL.ar ?_ | refine RL.p T ?_
    refine RL.sl T ?_ (h1 := n - kz m)
    refine RL.c fun11 (fun hs => csum m _ _ _ (es.take (n - kz m)) hpre hl1.symm (by omega) (hB.take _)) ?_
    rintro _ _ ⟨rfl, e⟩; obtain rfl := e.symm
    refine RL.p T ?_
    refine RL.p T ?_
    refine RL.p T ?_
    refine RL.p T ?_
    refine RL.p T ?_
    refine RL.nil _ _ _ _ ?_
    refine hK6 _ _ _ ?_
    refine SW.seq_k fun K7 hK7 => ?_
    refine SW.region _ _ _ _ ?_
    refine RL.p T ?_
    refine RL.p T ?_
    refine RL.p T ?_
    refine RL.join (fr1 := ?_) 3 48 true [49, 50, 51] (fun hs2 hj => ?_) ?_ ?_
    rotate_left
    ·have hs2j := hs2
     try simp only [decide_eq_true_eq, Bool.not_eq_true', decide_eq_false_iff_not, Bool.not_eq_false', Int.not_lt, Int.not_le, Int.toNat_natCast, Bool.and_eq_true, Bool.or_eq_true, Bool.and_eq_false_iff, Bool.or_eq_false_iff] at hs2
     refine RL.p T ?_
     refine RL.p T ?_
     refine RL.p T ?_
     exact hj
    ·repeat first | exact Mx.refl | exact Mx.mix | refine Mx.put rfl ?_ | refine Mx.upd rfl ?_ | refine Mx.updl rfl ?_ | refine Mx.fin rfl ?_ | refine Mx.inner rfl ?_ | refine Mx.none ?_
    refine RL.and ?_
    refine RL.p T ?_
    refine RL.nil _ _ _ _ ?_
    refine hK7 _ _ _ ?_
    refine SW.ret ?_
    refine retQ.rr (H) ?_
    clear hK7 K7 hK6 K6 hK5 K5 hK3 K3 hK2 K2 hK1 K1 hK0 K0
    first
      | exact ⟨by rw [fitsV_no (by omega)]; rfl, rfl⟩
      | (refine ⟨boolE ?_, rfl⟩
         rw [hmv (by omega) (by omega), fitsV_yes (by omega) (by omega) (by omega) hn]
         simp [eq_comm])
    )
theorem rfits {w0 : World} {H : List Chunk} (m : Int) (sa : Option Addr) (n c : Nat) (es : List Int) (hR : Rd w0 H sa n c 1 (es.map (.int .u8))) (hn : n = es.length) (hm : n ≤ 140737488351232) (hB : Byte es) : SC Try.prog w0 21 #[.int .i64 m, .slice sa n c] H (fun v H' => v = .bool (fitsV m es) ∧ H' = H) := by
 refine SC.enter Try.func21 rfl (Nat.le_of_ble_eq_true rfl) ?_
 refine SW.seq_k fun K0 hK0 => ?_
 have hkm := kind_max m
 have hsuf := hR.suf (n - kz m) (by omega : n - kz m ≤ n)
 have hpre := hR.pre (n - kz m) (by omega)
 have hl2 : (es.drop (n - kz m)).length = n - (n - kz m) := by rw [List.length_drop, hn]
 have hl1 : (es.take (n - kz m)).length = n - kz m - 0 := by rw [List.length_take]; omega
 have hc1 : chk es = 0 → chk (es.take (n - kz m)) = 0 := chk_take
 have hc2 : chk es = 0 → chk (es.drop (n - kz m)) = 0 := chk_drop
 have hmv : kz m ≠ 0 → chk es = 0 → _ := fun h1 h2 => moreV_ok (n := m) (s := ks m) (es := es.take (n - kz m)) h1 (hc1 h2) (kind_ok m h1).s
 refine SW.region _ _ _ _ ?_
 refine RL.p T ?_
 refine RL.nil _ _ _ _ ?_
 refine hK0 _ _ _ ?_
 refine SW.seq_k fun K1 hK1 => ?_
 refine SW.region _ _ _ _ ?_
 refine RL.p T ?_
 refine RL.c fun15 (fun hs => rof m) ?_
 rintro _ _ ⟨rfl, e⟩; obtain rfl := e.symm
 refine RL.p T ?_
 refine RL.p T ?_
 refine RL.p T ?_
 refine RL.p T ?_
 refine RL.p T ?_
 refine RL.p T ?_
 refine RL.p T ?_
 refine RL.nil _ _ _ _ ?_
 refine hK1 _ _ _ ?_
 refine SW.seq_k fun K2 hK2 => ?_
 refine SW.seq_k fun K3 hK3 => ?_
 refine SW.region _ _ _ _ ?_
 refine RL.p T ?_
 refine RL.p T ?_
 refine RL.p T ?_
 refine RL.join (fr1 := ?_) 4 18 false [19, 20, 21, 22] (fun hs0 hj => ?_) ?_ ?_
 rotate_left
 ·have hs0j := hs0
  try simp only [decide_eq_true_eq, Bool.not_eq_true', decide_eq_false_iff_not, Bool.not_eq_false', Int.not_lt, Int.not_le, Int.toNat_natCast, Bool.and_eq_true, Bool.or_eq_true, Bool.and_eq_false_iff, Bool.or_eq_false_iff] at hs0
  refine RL.p T ?_
  refine RL.p T ?_
  refine RL.p T ?_
  refine RL.p T ?_
  exact hj
 ·repeat first | exact Mx.refl | exact Mx.mix | refine Mx.put rfl ?_ | refine Mx.upd rfl ?_ | refine Mx.updl rfl ?_ | refine Mx.fin rfl ?_ | refine Mx.inner rfl ?_ | refine Mx.none ?_
 refine RL.or ?_
 refine RL.p T ?_
 refine RL.join (fr1 := ?_) 3 24 false [25, 26, 27] (fun hs1 hj => ?_) ?_ ?_
 rotate_left
 ·have hs1j := hs1
  try simp only [decide_eq_true_eq, Bool.not_eq_true', decide_eq_false_iff_not, Bool.not_eq_false', Int.not_lt, Int.not_le, Int.toNat_natCast, Bool.and_eq_true, Bool.or_eq_true, Bool.and_eq_false_iff, Bool.or_eq_false_iff] at hs1
  refine RL.p T ?_
  refine RL.c fun25 (fun hs => rcheck sa n c es hR hn hm) ?_
  rintro _ _ ⟨rfl, e⟩; obtain rfl := e.symm
  refine RL.p T ?_
  exact hj
 ·repeat first | exact Mx.refl | exact Mx.mix | refine Mx.put rfl ?_ | refine Mx.upd rfl ?_ | refine Mx.updl rfl ?_ | refine Mx.fin rfl ?_ | refine Mx.inner rfl ?_ | refine Mx.none ?_
 refine RL.or ?_
 refine RL.nil _ _ _ _ ?_
 refine hK3 _ _ _ ?_
 refine SW.cs (fun hc0 => ?_) (fun hc0 => ?_)
 ·skip
  first
   | (exfalso; first | omega | contradiction | (simp at *; done))
   | (
    refine SW.seq_k fun K4 hK4 => ?_
    refine SW.region _ _ _ _ ?_
    refine RL.p T ?_
    refine RL.nil _ _ _ _ ?_
    refine hK4 _ _ _ ?_
    refine SW.ret ?_
    refine retQ.rr (H) ?_
    clear hK4 K4 hK3 K3 hK2 K2 hK1 K1 hK0 K0
    first
      | exact ⟨by rw [fitsV_no (by omega)]; rfl, rfl⟩
      | (refine ⟨boolE ?_, rfl⟩
         rw [hmv (by omega) (by omega), fitsV_yes (by omega) (by omega) (by omega) hn]
         try simp)
    )
 ·skip
  first
   | (exfalso; first | omega | contradiction | (simp at *; done))
   | (
    refine SW.skip ?_
    refine hK2 _ _ _ ?_
    refine SW.seq_k fun K5 hK5 => ?_
    refine SW.region _ _ _ _ ?_
    refine RL.p T ?_
    refine RL.p T ?_
    refine RL.p T ?_
    refine RL.p T ?_
    refine RL.p T ?_
    first | refine RL.ar ?_ | refine RL.p T ?_
    refine RL.sl T ?_ (h1 := n - kz m)
    refine RL.c fun12 (fun hs => rsum m _ _ _ (es.take (n - kz m)) hpre hl1.symm (by omega) (hB.take _)) ?_
    rintro _ _ ⟨rfl, e⟩; obtain rfl := e.symm
    refine RL.p T ?_
    refine RL.p T ?_
    refine RL.p T ?_
    refine RL.p T ?_
    refine RL.p T ?_
    refine RL.nil _ _ _ _ ?_
    refine hK5 _ _ _ ?_
    refine SW.seq_k fun K6 hK6 => ?_
    refine SW.region _ _ _ _ ?_
    refine RL.p T ?_
    refine RL.p T ?_
    refine RL.p T ?_
    refine RL.p T ?_
    first | refine RL.ar ?_ | refine RL.p T ?_
    refine RL.sl T ?_ (l1 := n - kz m)
    refine RL.c fun31 (fun hs => rnum _ _ _ (es.drop (n - kz m)) hsuf hl2.symm (by omega) (by omega) (chk_bit (hB.drop _) (hc2 (by omega)))) ?_
    rintro _ _ ⟨rfl, e⟩; obtain rfl := e.symm
    refine RL.p T ?_
    refine RL.p T ?_
    refine RL.p T ?_
    refine RL.nil _ _ _ _ ?_
    refine hK6 _ _ _ ?_
    refine SW.ret ?_
    refine retQ.rr (H) ?_
    clear hK6 K6 hK5 K5 hK3 K3 hK2 K2 hK1 K1 hK0 K0
    first
      | exact ⟨by rw [fitsV_no (by omega)]; rfl, rfl⟩
      | (refine ⟨boolE ?_, rfl⟩
         rw [hmv (by omega) (by omega), fitsV_yes (by omega) (by omega) (by omega) hn]
         try simp)
    )
end Go.Proofs.Ytmdmlhhhaidebaa.M
