import Derived.Test.YtjemdjjmpgjieaaProg
import Derived.Test.YtjemdjjmpgjieaaFN14
import Derived.Test.YtjemdjjmpgjieaaS22
import Derived.Test.YtjemdjjmpgjieaaP14f
set_option linter.unusedVariables false
set_option linter.unusedSimpArgs false
namespace Go.Proofs.Ytjemdjjmpgjieaa.M
open Go Go.Sep Go.Proofs
set_option maxRecDepth 10000
set_option maxHeartbeats 2000000
theorem rnum {w0 : World} {H : List Chunk} (sa : Option Addr) (n c : Nat) (es : List Int) (hR : Rd w0 H sa n c 1 (es.map (.int .u8))) (hn : n = es.length) (hm : n ≤ 140737488351232) (h64 : es.length ≤ 64) (hb : Bit es) : SC Try.prog w0 68 #[.slice sa n c] H (fun v H' => v = .int .u64 (numS 0 es) ∧ H' = H) := by
 refine SC.enter Try.func68 rfl (Nat.le_of_ble_eq_true rfl) ?_
 refine SW.seq_k fun K0 hK0 => ?_
 refine SW.region _ _ _ _ ?_
 refine RL.p T ?_
 refine RL.nil _ _ _ _ ?_
 refine hK0 _ _ _ ?_
 refine SW.seq_k fun K1 hK1 => ?_
 refine SW.region _ _ _ _ ?_
 refine RL.p T ?_
 refine RL.nil _ _ _ _ ?_
 refine hK1 _ _ _ ?_
 refine SW.seq_k fun K2 hK2 => ?_
 refine SW.seq_k fun K3 hK3 => ?_
 refine SW.region _ _ _ _ ?_
 refine RL.p T ?_
 refine RL.p T ?_
 refine RL.p T ?_
 refine RL.nil _ _ _ _ ?_
 refine hK3 _ _ _ ?_
 refine SW.block ?_
 refine SW.loopM (fun frB mm fr ds HH => ∃ (k : Nat) , mm = n - k ∧ (k ≤ n ∧ (True)) ∧ FrIs [3, 5, 8, 9, 10, 11, 12, 13, 14, 15, 16, 17] frB fr [(8, .int .i64 k), (3, .int .u64 (numS 0 (es.take k)))] ∧ ds = [] ∧ HH = H) (n := n - 0) ?_ ?_
 ·exact ⟨0, rfl, ⟨Nat.zero_le _, trivial⟩, (.cons rfl (.consI rfl (by first | omega | rfl) (.nil (by repeat first | with_reducible exact Mx.refl | with_reducible exact Mx.mix | refine Mx.put rfl ?_ | refine Mx.upd rfl ?_ | refine Mx.updl rfl ?_ | refine Mx.fin rfl ?_ | refine Mx.inner rfl ?_ | refine Mx.none ?_ | exact Mx.refl | exact Mx.mix)))), rfl, rfl⟩
 ·rintro mm fr ds HH ⟨k, rfl, ⟨hk, _⟩, hFr, rfl, eHH⟩
  obtain rfl := eHH.symm
  obtain ⟨frU, rfl⟩ := hFr.eq
  clear hFr
  have hst : k < es.length → _ := numS_take (x := 0) (es := es) (k := k)
  have hz := hb k
  have h0 := numS_pos (x := 0) (k := k) (by omega) hb
  have h1 := fun h => numS_small (x := 0) (k := k) (by omega) (numS_room h64) hb h
  refine SW.seq_k fun K4 hK4 => ?_
  refine SW.region _ _ _ _ ?_
  refine RL.p T ?_
  refine RL.nil _ _ _ _ ?_
  refine hK4 _ _ _ ?_
  refine SW.seq_k fun K5 hK5 => ?_
  refine SW.cs (fun hc0 => ?_) (fun hc0 => ?_)
  ·skip
   refine SW.skip ?_
   refine hK5 _ _ _ ?_
   refine SW.seq_k fun K6 hK6 => ?_
   refine SW.block ?_
   refine SW.seq_k fun K7 hK7 => ?_
   refine SW.region _ _ _ _ ?_
   refine RL.ix T ?_
   refine RL.le T ?_
   refine RL.p T ?_
   refine RL.nil _ _ _ _ ?_
   refine hK7 _ _ _ ?_
   refine SW.region _ _ _ _ ?_
   refine RL.p T ?_
   first | refine RL.arK ?_ | refine RL.p T ?_
   refine RL.p T ?_
   first | refine RL.cv T ?_ | refine RL.p T ?_ | refine RL.ts T ?_
   first | refine RL.arK ?_ | refine RL.p T ?_
   refine RL.p T ?_
   refine RL.nil _ _ _ _ ?_
   refine hK6 _ _ _ ?_
   refine SW.region _ _ _ _ ?_
   first | refine RL.ar ?_ | refine RL.p T ?_
   refine RL.p T ?_
   refine RL.nil _ _ _ _ ?_
   exact ⟨n - (k + 1), (by omega), k + 1, (by rfl), ⟨by omega, trivial⟩, (.cons rfl (.consI rfl (by first | omega | rfl) (.nil (by repeat first | with_reducible exact Mx.refl | with_reducible exact Mx.mix | refine Mx.put rfl ?_ | refine Mx.upd rfl ?_ | refine Mx.updl rfl ?_ | refine Mx.fin rfl ?_ | refine Mx.inner rfl ?_ | refine Mx.none ?_ | exact Mx.refl | exact Mx.mix)))), rfl, rfl⟩
  ·skip
   refine SW.exit ?_
   refine hK2 _ _ _ ?_
   refine SW.seq_k fun K8 hK8 => ?_
   refine SW.region _ _ _ _ ?_
   refine RL.p T ?_
   refine RL.p T ?_
   refine RL.nil _ _ _ _ ?_
   refine hK8 _ _ _ ?_
   refine SW.ret ?_
   refine retQ.rr (H) ?_
   clear hK8 K8 hK5 K5 hK4 K4 hK3 K3 hK2 K2 hK1 K1 hK0 K0
   refine ⟨?_, rfl⟩; rw [List.take_of_length_le (by omega)]; rfl
theorem rbits {w0 : World} {H : List Chunk} (z : Int) (s : Nat) (h64 : s ≤ 64) (z0 : 0 ≤ z) (z1 : z ≤ 18446744073709551615) : SC Try.prog w0 66 #[.int .u64 z, .int .i64 s] H (fun v H' => ∃ ab cb, v = .slice ab s cb ∧ H' = .row ab s cb 5 1 ((bitsS z s).map (.int .u8)) :: H) := by
 refine SC.enter Try.func66 rfl (Nat.le_of_ble_eq_true rfl) ?_
 refine SW.seq_k fun K0 hK0 => ?_
 refine SW.region _ _ _ _ ?_
 refine RL.p T ?_
 refine RL.nil _ _ _ _ ?_
 refine hK0 _ _ _ ?_
 refine SW.seq_k fun K1 hK1 => ?_
 refine SW.region _ _ _ _ ?_
 refine RL.p T ?_
 refine RL.mk T fun b8_0 => ?_
 refine RL.p T ?_
 refine RL.nil _ _ _ _ ?_
 refine hK1 _ _ _ ?_
 refine SW.seq_k fun K2 hK2 => ?_
 refine SW.seq_k fun K3 hK3 => ?_
 refine SW.region _ _ _ _ ?_
 refine RL.p T ?_
 first | refine RL.ar ?_ | refine RL.p T ?_
 refine RL.p T ?_
 refine RL.nil _ _ _ _ ?_
 refine hK3 _ _ _ ?_
 refine SW.block ?_
 refine SW.loopM (fun frB mm fr ds HH => ∃ (k : Nat) (xs : List Int), mm = s - k ∧ (k ≤ s ∧ xs.length = s ∧ xs.drop (s - k) = bitsS z k) ∧ FrIs [0, 6, 11, 12, 13, 14, 15, 16, 17, 18, 19, 20, 21, 22] frB fr [(0, .int .u64 (z / 2 ^ k)), (6, .int .i64 ((s : Int) - 1 - k))] ∧ ds = [] ∧ HH = (.row (some ⟨b8_0, 0, none⟩) s s 5 1 (xs.map (.int .u8)) :: H)) (n := s - 0) ?_ ?_
 ·exact ⟨0, List.replicate s 0, rfl, ⟨Nat.zero_le _, by simp, by simp [bitsS]⟩, (.consI rfl (by first | omega | rfl) (.consI rfl (by first | omega | rfl) (.nil (by repeat first | with_reducible exact Mx.refl | with_reducible exact Mx.mix | refine Mx.put rfl ?_ | refine Mx.upd rfl ?_ | refine Mx.updl rfl ?_ | refine Mx.fin rfl ?_ | refine Mx.inner rfl ?_ | refine Mx.none ?_ | exact Mx.refl | exact Mx.mix)))), rfl, (by rw [List.map_replicate])⟩
 ·rintro mm fr ds HH ⟨k, xs, rfl, ⟨hk, hl, hx⟩, hFr, rfl, eHH⟩
  obtain rfl := eHH.symm
  obtain ⟨frU, rfl⟩ := hFr.eq
  clear hFr
  have e2 := half (z := z) (k := k)
  have hp : (0 : Int) < 2 ^ k := Int.pow_pos (by decide)
  have hq0 : 0 ≤ z / 2 ^ k := Int.ediv_nonneg z0 (by omega)
  have hq1 : z / 2 ^ k ≤ z := Int.ediv_le_self _ z0
  refine SW.seq_k fun K4 hK4 => ?_
  refine SW.seq_k fun K5 hK5 => ?_
  refine SW.region _ _ _ _ ?_
  refine RL.p T ?_
  refine RL.p T ?_
  refine RL.nil _ _ _ _ ?_
  refine hK5 _ _ _ ?_
  refine SW.cs (fun hc0 => ?_) (fun hc0 => ?_)
  ·skip
   refine SW.skip ?_
   refine hK4 _ _ _ ?_
   refine SW.seq_k fun K6 hK6 => ?_
   refine SW.block ?_
   refine SW.seq_k fun K7 hK7 => ?_
   refine SW.region _ _ _ _ ?_
   refine RL.p T ?_
   refine RL.p T ?_
   refine RL.p T ?_
   first | refine RL.q (QV.remP rfl rfl rfl (by omega) (by omega)) ?_ | refine RL.q (QV.rem rfl rfl rfl (by omega) rfl) ?_
   first | refine RL.cv T ?_ | refine RL.p T ?_ | refine RL.ts T ?_
   refine RL.ix T ?_
   refine RL.sei T ?_
   refine RL.nil _ _ _ _ ?_
   refine hK7 _ _ _ ?_
   refine SW.region _ _ _ _ ?_
   refine RL.p T ?_
   first | refine RL.q (QV.quoP rfl rfl rfl (by omega) (by omega) (by simp only [hiK]; omega)) ?_ | refine RL.q (QV.quo rfl rfl rfl (by omega) rfl) ?_
   refine RL.p T ?_
   refine RL.nil _ _ _ _ ?_
   refine hK6 _ _ _ ?_
   refine SW.region _ _ _ _ ?_
   refine RL.p T ?_
   first | refine RL.ar ?_ | refine RL.p T ?_
   refine RL.p T ?_
   refine RL.nil _ _ _ _ ?_
   exact ⟨s - (k + 1), (by omega), k + 1, xs.set (s - 1 - k) ((z / 2 ^ k) % 2), (by rfl), ⟨by omega, by simpa using hl, bits_set (by omega) hl hx⟩, (.consI rfl (by first | omega | rfl) (.consI rfl (by first | omega | rfl) (.nil (by repeat first | with_reducible exact Mx.refl | with_reducible exact Mx.mix | refine Mx.put rfl ?_ | refine Mx.upd rfl ?_ | refine Mx.updl rfl ?_ | refine Mx.fin rfl ?_ | refine Mx.inner rfl ?_ | refine Mx.none ?_ | exact Mx.refl | exact Mx.mix)))), rfl, (by rw [show ((s : Int) - 1 - k).toNat = s - 1 - k by omega])⟩
  ·skip
   refine SW.exit ?_
   refine hK2 _ _ _ ?_
   refine SW.seq_k fun K8 hK8 => ?_
   refine SW.region _ _ _ _ ?_
   refine RL.p T ?_
   refine RL.p T ?_
   refine RL.nil _ _ _ _ ?_
   refine hK8 _ _ _ ?_
   refine SW.ret ?_
   refine retQ.rr _ ?_ (hH := fun w hw => hw)
   clear hK8 K8 hK5 K5 hK4 K4 hK3 K3 hK2 K2 hK1 K1 hK0 K0
   obtain rfl : k = s := by omega
   rw [Nat.sub_self, List.drop_zero] at hx
   rw [hx]
   exact ⟨_, _, rfl, rfl⟩
theorem bitI {w0 : World} {H : List Chunk} (b : Bool) : SC Try.prog w0 67 #[.bool b] H (fun v H' => v = .int .u8 (bI b) ∧ H' = H) := by
 refine SC.enter Try.func67 rfl (Nat.le_of_ble_eq_true rfl) ?_
 refine SW.seq_k fun K0 hK0 => ?_
 refine SW.region _ _ _ _ ?_
 refine RL.p T ?_
 refine RL.nil _ _ _ _ ?_
 refine hK0 _ _ _ ?_
 refine SW.seq_k fun K1 hK1 => ?_
 refine SW.seq_k fun K2 hK2 => ?_
 refine SW.region _ _ _ _ ?_
 refine RL.p T ?_
 refine RL.nil _ _ _ _ ?_
 refine hK2 _ _ _ ?_
 refine SW.cs (fun hc0 => ?_) (fun hc0 => ?_)
 ·skip
  first
   | (exfalso; first | omega | contradiction | (clear hK2 K2; clear hK1 K1; clear hK0 K0; simp at *; done))
   | (
    refine SW.seq_k fun K3 hK3 => ?_
    refine SW.region _ _ _ _ ?_
    refine RL.p T ?_
    refine RL.nil _ _ _ _ ?_
    refine hK3 _ _ _ ?_
    refine SW.ret ?_
    refine retQ.rr (H) ?_
    clear hK3 K3 hK2 K2 hK1 K1 hK0 K0
    first
      | (have hb : b = true := by assumption
         subst hb; exact ⟨rfl, rfl⟩)
      | (have hb : b = false := by cases b <;> simp_all
         subst hb; exact ⟨rfl, rfl⟩)
    )
 ·skip
  first
   | (exfalso; first | omega | contradiction | (clear hK2 K2; clear hK1 K1; clear hK0 K0; simp at *; done))
   | (
    refine SW.skip ?_
    refine hK1 _ _ _ ?_
    refine SW.seq_k fun K4 hK4 => ?_
    refine SW.region _ _ _ _ ?_
    refine RL.p T ?_
    refine RL.nil _ _ _ _ ?_
    refine hK4 _ _ _ ?_
    refine SW.ret ?_
    refine retQ.rr (H) ?_
    clear hK4 K4 hK2 K2 hK1 K1 hK0 K0
    first
      | (have hb : b = true := by assumption
         subst hb; exact ⟨rfl, rfl⟩)
      | (have hb : b = false := by cases b <;> simp_all
         subst hb; exact ⟨rfl, rfl⟩)
    )
theorem rkey_bad {w0 : World} {H : List Chunk} (f : Frm) (sa : Option Addr) (n c : Nat) (hR : Rd w0 H sa n c 1 (f.data.map (.int .u8))) (hn : n = f.data.length) (hm : n ≤ 140737488351232) (hf : FrOk f) (hc : chkF f ≠ 0) : SC Try.prog w0 56 #[FA f sa n c] H (fun v H' => v = .tuple #[.int .u64 0, .int .i64 2] ∧ H' = H) := by
 refine SC.enter Try.func56 rfl (Nat.le_of_ble_eq_true rfl) ?_
 refine SW.seq_k fun K0 hK0 => ?_
 refine SW.region _ _ _ _ ?_
 refine RL.s ?_
 refine NV.box rfl (by exact (rfl : _ = [_, _, _, _, _, _, _, _, _, _, _])) ?_
 intro b1_0
 refine RL.p T ?_
 refine RL.p T ?_
 refine RL.nil _ _ _ _ ?_
 refine hK0 _ _ _ ?_
 refine SW.seq_k fun K1 hK1 => ?_
 refine SW.seq_k fun K2 hK2 => ?_
 refine SW.region _ _ _ _ ?_
 refine RL.q (QV.vN T rfl rfl rfl rfl rfl (by exact (rfl : _ = [_, _, _, _, _, _, _, _, _, _, _]))) ?_
 refine RL.c fun41 (fun hs => rfcheck f sa n c (by repeat first | exact hR | apply Rd.cons | apply Rd.app) hn hm hf) ?_
 rintro _ _ ⟨rfl, e⟩; obtain rfl := e.symm
 refine RL.p T ?_
 refine RL.nil _ _ _ _ ?_
 refine hK2 _ _ _ ?_
 refine SW.cs (fun hc0 => ?_) (fun hc0 => ?_)
 ·skip
  first
   | (exfalso; first | omega | contradiction | (clear hK2 K2; clear hK1 K1; clear hK0 K0; simp at *; done))
   | (
    refine SW.seq_k fun K3 hK3 => ?_
    refine SW.region _ _ _ _ ?_
    refine RL.p T ?_
    refine RL.p T ?_
    refine RL.nil _ _ _ _ ?_
    refine hK3 _ _ _ ?_
    refine SW.ret ?_
    refine retQ.rr (H) ?_
    clear hK3 K3 hK2 K2 hK1 K1 hK0 K0
    exact ⟨rfl, rfl⟩
    )
 ·skip
  first
   | (exfalso; first | omega | contradiction | (clear hK2 K2; clear hK1 K1; clear hK0 K0; simp at *; done))
   | (
    refine SW.skip ?_
    refine hK1 _ _ _ ?_
    refine SW.seq_k fun K4 hK4 => ?_
    refine SW.region _ _ _ _ ?_
    refine RL.p T ?_
    refine RL.nil _ _ _ _ ?_
    refine hK4 _ _ _ ?_
    refine SW.seq_k fun K5 hK5 => ?_
    refine SW.seq_k fun K6 hK6 => ?_
    refine SW.region _ _ _ _ ?_
    refine RL.p T ?_
    refine RL.lv1 T ?_
    refine RL.nil _ _ _ _ ?_
    refine hK6 _ _ _ ?_
    refine SW.cs (fun hc1 => ?_) (fun hc1 => ?_)
    ·skip
     exfalso; first | omega | contradiction | (clear hK6 K6; clear hK5 K5; clear hK4 K4; clear hK2 K2; clear hK1 K1; clear hK0 K0; simp at *; done)
    ·skip
     exfalso; first | omega | contradiction | (clear hK6 K6; clear hK5 K5; clear hK4 K4; clear hK2 K2; clear hK1 K1; clear hK0 K0; simp at *; done)
    )
theorem rkey_e {w0 : World} {H : List Chunk} (f : Frm) (sa : Option Addr) (n c : Nat) (hR : Rd w0 H sa n c 1 (f.data.map (.int .u8))) (hn : n = f.data.length) (hm : n ≤ 140737488351232) (hf : FrOk f) (hc : chkF f = 0) (he : f.ext = true) : SC Try.prog w0 56 #[FA f sa n c] H (fun v H' => v = .tuple #[.int .u64 (keyF f), .int .i64 0] ∧ H' = H) := by
 refine SC.enter Try.func56 rfl (Nat.le_of_ble_eq_true rfl) ?_
 refine SW.seq_k fun K0 hK0 => ?_
 have hid := (chk_id hc).1 he
 have hi0 := hf.id
 refine SW.region _ _ _ _ ?_
 refine RL.s ?_
 refine NV.box rfl (by exact (rfl : _ = [_, _, _, _, _, _, _, _, _, _, _])) ?_
 intro b1_0
 refine RL.p T ?_
 refine RL.p T ?_
 refine RL.nil _ _ _ _ ?_
 refine hK0 _ _ _ ?_
 refine SW.seq_k fun K1 hK1 => ?_
 refine SW.seq_k fun K2 hK2 => ?_
 refine SW.region _ _ _ _ ?_
 refine RL.q (QV.vN T rfl rfl rfl rfl rfl (by exact (rfl : _ = [_, _, _, _, _, _, _, _, _, _, _]))) ?_
 refine RL.c fun41 (fun hs => rfcheck f sa n c (by repeat first | exact hR | apply Rd.cons | apply Rd.app) hn hm hf) ?_
 rintro _ _ ⟨rfl, e⟩; obtain rfl := e.symm
 refine RL.p T ?_
 refine RL.nil _ _ _ _ ?_
 refine hK2 _ _ _ ?_
 refine SW.cs (fun hc0 => ?_) (fun hc0 => ?_)
 ·skip
  first
   | (exfalso; clear hK2 K2; clear hK1 K1; clear hK0 K0; first | omega | contradiction | (simp_all; done))
   | (
    refine SW.seq_k fun K3 hK3 => ?_
    refine SW.region _ _ _ _ ?_
    refine RL.p T ?_
    refine RL.p T ?_
    refine RL.nil _ _ _ _ ?_
    refine hK3 _ _ _ ?_
    refine SW.ret ?_
    refine retQ.wk (H) ?_
    refine retQ.rr _ ?_ (hH := fun w hw => hw)
    clear hK3 K3 hK2 K2 hK1 K1 hK0 K0
    rw [keyX_num (by omega) hid he]
    exact ⟨rfl, rfl⟩
    )
 ·skip
  first
   | (exfalso; clear hK2 K2; clear hK1 K1; clear hK0 K0; first | omega | contradiction | (simp_all; done))
   | (
    refine SW.skip ?_
    refine hK1 _ _ _ ?_
    refine SW.seq_k fun K4 hK4 => ?_
    refine SW.region _ _ _ _ ?_
    refine RL.p T ?_
    refine RL.nil _ _ _ _ ?_
    refine hK4 _ _ _ ?_
    refine SW.seq_k fun K5 hK5 => ?_
    refine SW.seq_k fun K6 hK6 => ?_
    refine SW.region _ _ _ _ ?_
    refine RL.p T ?_
    refine RL.lv1 T ?_
    refine RL.nil _ _ _ _ ?_
    refine hK6 _ _ _ ?_
    refine SW.cs (fun hc1 => ?_) (fun hc1 => ?_)
    ·skip
     first
      | (exfalso; clear hK6 K6; clear hK5 K5; clear hK4 K4; clear hK2 K2; clear hK1 K1; clear hK0 K0; first | omega | contradiction | (simp_all; done))
      | (
       refine SW.seq_k fun K7 hK7 => ?_
       refine SW.region _ _ _ _ ?_
       refine RL.p T ?_
       refine RL.lv1 T ?_
       first | refine RL.q (QV.quoP rfl rfl rfl (by omega) (by omega) (by simp only [hiK]; omega)) ?_ | refine RL.q (QV.quo rfl rfl rfl (by omega) rfl) ?_
       first | refine RL.cv T ?_ | refine RL.p T ?_ | refine RL.ts T ?_
       refine RL.c fun66 (fun hs => rbits (f.id / 2 ^ 18) 11 (by omega) (by omega) (by omega)) ?_
       rintro _ _ ⟨a1, c1, rfl, e⟩; obtain rfl := e.symm
       refine RL.bs T rfl rfl rfl (by exact (rfl : _ = some [_, _])) (fun b15_1 => ?_)
       first | refine RL.apI1 (ki := .u8) T (fun a0_ c0_ => ?_) | refine RL.apI (ki := .u8) T (fun a0_ c0_ => ?_) | refine RL.apI (ki := .u8) (xs := []) T (fun a0_ c0_ => ?_)
       refine RL.p T ?_
       refine RL.nil _ _ _ _ ?_
       refine hK7 _ _ _ ?_
       refine SW.seq_k fun K8 hK8 => ?_
       refine SW.region _ _ _ _ ?_
       refine RL.p T ?_
       refine RL.p T ?_
       refine RL.lv1 T ?_
       first | refine RL.q (QV.remP rfl rfl rfl (by omega) (by omega)) ?_ | refine RL.q (QV.rem rfl rfl rfl (by omega) rfl) ?_
       first | refine RL.cv T ?_ | refine RL.p T ?_ | refine RL.ts T ?_
       refine RL.c fun66 (fun hs => rbits (f.id % 2 ^ 18) 18 (by omega) (by omega) (by omega)) ?_
       rintro _ _ ⟨a2, c2, rfl, e⟩; obtain rfl := e.symm
       first | refine RL.apI1 (ki := .u8) T (fun a1_ c1_ => ?_) | refine RL.apI (ki := .u8) T (fun a1_ c1_ => ?_) | refine RL.apI (ki := .u8) (xs := []) T (fun a1_ c1_ => ?_)
       refine RL.p T ?_
       refine RL.nil _ _ _ _ ?_
       refine hK8 _ _ _ ?_
       refine SW.region _ _ _ _ ?_
       refine RL.p T ?_
       refine RL.p T ?_
       refine RL.lv1 T ?_
       refine RL.c fun67 (fun hs => bitI f.rtr) ?_
       rintro _ _ ⟨rfl, e⟩; obtain rfl := e.symm
       refine RL.bs T rfl rfl rfl (by exact (rfl : _ = some [_, _, _])) (fun b28_2 => ?_)
       first | refine RL.apI1 (ki := .u8) T (fun a2_ c2_ => ?_) | refine RL.apI (ki := .u8) T (fun a2_ c2_ => ?_) | refine RL.apI (ki := .u8) (xs := []) T (fun a2_ c2_ => ?_)
       refine RL.p T ?_
       refine RL.nil _ _ _ _ ?_
       refine hK5 _ _ _ ?_
       refine SW.seq_k fun K9 hK9 => ?_
       refine SW.region _ _ _ _ ?_
       refine RL.p T ?_
       refine RL.c fun68 (fun hs => rnum _ _ _ (keyXb f) (Rd.rowh hs (by repeat first | exact At.head _ _ | apply At.tail | apply At.app)) (keyXb_len f).symm (by omega) (by rw [keyXb_len]; omega) (keyXb_bit f)) ?_
       rintro _ _ ⟨rfl, e⟩; obtain rfl := e.symm
       refine RL.p T ?_
       refine RL.p T ?_
       refine RL.nil _ _ _ _ ?_
       refine hK9 _ _ _ ?_
       refine SW.ret ?_
       refine retQ.wk (H) ?_
       refine retQ.rr _ ?_ (hH := fun w hw => hw)
       clear hK9 K9 hK8 K8 hK7 K7 hK6 K6 hK5 K5 hK4 K4 hK2 K2 hK1 K1 hK0 K0
       rw [keyX_num (by omega) hid he]
       exact ⟨rfl, rfl⟩
       )
    ·skip
     exfalso; clear hK6 K6; clear hK5 K5; clear hK4 K4; clear hK2 K2; clear hK1 K1; clear hK0 K0; first | omega | contradiction | (simp_all; done)
    )
theorem rkey_n {w0 : World} {H : List Chunk} (f : Frm) (sa : Option Addr) (n c : Nat) (hR : Rd w0 H sa n c 1 (f.data.map (.int .u8))) (hn : n = f.data.length) (hm : n ≤ 140737488351232) (hf : FrOk f) (hc : chkF f = 0) (he : f.ext = false) : SC Try.prog w0 56 #[FA f sa n c] H (fun v H' => v = .tuple #[.int .u64 (keyF f), .int .i64 0] ∧ H' = H) := by
 refine SC.enter Try.func56 rfl (Nat.le_of_ble_eq_true rfl) ?_
 refine SW.seq_k fun K0 hK0 => ?_
 have hid := (chk_id hc).2 he
 have hi0 := hf.id
 have hkl := keyBb_len f
 refine SW.region _ _ _ _ ?_
 refine RL.s ?_
 refine NV.box rfl (by exact (rfl : _ = [_, _, _, _, _, _, _, _, _, _, _])) ?_
 intro b1_0
 refine RL.p T ?_
 refine RL.p T ?_
 refine RL.nil _ _ _ _ ?_
 refine hK0 _ _ _ ?_
 refine SW.seq_k fun K1 hK1 => ?_
 refine SW.seq_k fun K2 hK2 => ?_
 refine SW.region _ _ _ _ ?_
 refine RL.q (QV.vN T rfl rfl rfl rfl rfl (by exact (rfl : _ = [_, _, _, _, _, _, _, _, _, _, _]))) ?_
 refine RL.c fun41 (fun hs => rfcheck f sa n c (by repeat first | exact hR | apply Rd.cons | apply Rd.app) hn hm hf) ?_
 rintro _ _ ⟨rfl, e⟩; obtain rfl := e.symm
 refine RL.p T ?_
 refine RL.nil _ _ _ _ ?_
 refine hK2 _ _ _ ?_
 refine SW.cs (fun hc0 => ?_) (fun hc0 => ?_)
 ·skip
  first
   | (exfalso; clear hK2 K2; clear hK1 K1; clear hK0 K0; first | omega | contradiction | (simp_all; done))
   | (
    refine SW.seq_k fun K3 hK3 => ?_
    refine SW.region _ _ _ _ ?_
    refine RL.p T ?_
    refine RL.p T ?_
    refine RL.nil _ _ _ _ ?_
    refine hK3 _ _ _ ?_
    refine SW.ret ?_
    refine retQ.wk (H) ?_
    refine retQ.rr _ ?_ (hH := fun w hw => hw)
    clear hK3 K3 hK2 K2 hK1 K1 hK0 K0
    rw [keyB_num (by omega) hid he]
    exact ⟨rfl, rfl⟩
    )
 ·skip
  first
   | (exfalso; clear hK2 K2; clear hK1 K1; clear hK0 K0; first | omega | contradiction | (simp_all; done))
   | (
    refine SW.skip ?_
    refine hK1 _ _ _ ?_
    refine SW.seq_k fun K4 hK4 => ?_
    refine SW.region _ _ _ _ ?_
    refine RL.p T ?_
    refine RL.nil _ _ _ _ ?_
    refine hK4 _ _ _ ?_
    refine SW.seq_k fun K5 hK5 => ?_
    refine SW.seq_k fun K6 hK6 => ?_
    refine SW.region _ _ _ _ ?_
    refine RL.p T ?_
    refine RL.lv1 T ?_
    refine RL.nil _ _ _ _ ?_
    refine hK6 _ _ _ ?_
    refine SW.cs (fun hc1 => ?_) (fun hc1 => ?_)
    ·skip
     exfalso; clear hK6 K6; clear hK5 K5; clear hK4 K4; clear hK2 K2; clear hK1 K1; clear hK0 K0; first | omega | contradiction | (simp_all; done)
    ·skip
     first
      | (exfalso; clear hK6 K6; clear hK5 K5; clear hK4 K4; clear hK2 K2; clear hK1 K1; clear hK0 K0; first | omega | contradiction | (simp_all; done))
      | (
       refine SW.seq_k fun K7 hK7 => ?_
       refine SW.draw [(30, 0), (31, 1), (32, 2), (33, 3), (34, 4), (35, 5), (36, 6), (37, 7), (38, 8), (39, 9), (40, 10), (41, 11), (42, 12), (43, 13), (44, 14), (45, 15), (46, 16), (4, 17)] [[], [0], [1, 0], [2, 1, 0], [], [4], [5, 4, 3, 2, 1, 0], [], [7], [8, 7], [9, 8, 7, 6, 5, 4, 3, 2, 1, 0], [], [11], [12, 11], [13, 12, 11, 10, 9, 8, 7, 6, 5, 4, 3, 2, 1, 0], [6, 5, 4, 3, 2, 1, 0, 10, 9, 8, 7, 14, 13, 12, 11], [3, 2, 1, 0, 15, 6, 5, 4, 10, 9, 8, 7, 14, 13, 12, 11], [16, 3, 2, 1, 0, 15, 6, 5, 4, 10, 9, 8, 7, 14, 13, 12, 11]] mixed (by kernel_rfl) (by kernel_rfl) ?_
       refine RD.p T ?_
       refine RD.q rfl rfl (Gd.none rfl) (QV.v1 T) ?_
       refine RD.q rfl rfl (Gd.none rfl) (QV.convI T rfl rfl rfl rfl (by simp only [loK]; omega) (by simp only [hiK]; omega)) ?_
       refine RD.p T ?_
       refine RD.q rfl rfl (Gd.none rfl) (QV.v1 T) ?_
       refine RD.p T ?_
       refine RD.q rfl rfl (Gd.none rfl) (QV.v1 T) ?_
       refine RD.p T ?_
       refine RD.p T ?_
       refine RD.q rfl rfl (Gd.none rfl) (QV.v1 T) ?_
       refine RD.p T ?_
       refine RD.nv rfl rfl rfl (Gd.none rfl) ?_
       refine NV.call rfl rfl rfl fun66 rfl rfl (rbits f.id 11 (by omega) (by omega) (by omega)) ?_
       rintro _ _ ⟨a1, c1, rfl, e⟩; obtain rfl := e.symm
       refine ⟨(Stab.cons rfl (Gd.none rfl) (pev_sound T rfl) (Stab.cons rfl (Gd.none rfl) (QV.v1 T) (Stab.cons rfl (Gd.none rfl) (pev_sound T rfl) (Stab.cons rfl (Gd.none rfl) (pev_sound T rfl) (Stab.cons rfl (Gd.none rfl) (QV.v1 T) (Stab.cons rfl (Gd.none rfl) (pev_sound T rfl) (Stab.cons rfl (Gd.none rfl) (QV.v1 T) (Stab.cons rfl (Gd.none rfl) (pev_sound T rfl) Stab.nil)))))))), ?_⟩
       refine RD.nv rfl rfl rfl (Gd.none rfl) ?_
       refine NV.call rfl rfl rfl fun67 rfl rfl (bitI f.rtr) ?_
       rintro _ _ ⟨rfl, e⟩; obtain rfl := e.symm
       refine ⟨(Stab.cons rfl (Gd.none rfl) (pev_sound T rfl) (Stab.cons rfl (Gd.none rfl) (QV.v1 T) (Stab.cons rfl (Gd.none rfl) (pev_sound T rfl) (Stab.cons rfl (Gd.none rfl) (pev_sound T rfl) (Stab.cons rfl (Gd.none rfl) (QV.v1 T) (Stab.cons rfl (Gd.none rfl) (pev_sound T rfl) Stab.nil)))))), ?_⟩
       refine RD.nv rfl rfl rfl (Gd.none rfl) ?_
       refine NV.call rfl rfl rfl fun67 rfl rfl (bitI (!decide (f.kind = 1))) ?_
       rintro _ _ ⟨rfl, e⟩; obtain rfl := e.symm
       refine ⟨(Stab.cons rfl (Gd.none rfl) (pev_sound T rfl) (Stab.cons rfl (Gd.none rfl) (QV.v1 T) (Stab.cons rfl (Gd.none rfl) (pev_sound T rfl) Stab.nil))), ?_⟩
       refine RD.nv rfl rfl rfl (Gd.none rfl) ?_
       refine NV.call rfl rfl rfl fun67 rfl rfl (bitI (decide (f.kind = 3))) ?_
       rintro _ _ ⟨rfl, e⟩; obtain rfl := e.symm
       refine ⟨Stab.nil, ?_⟩
       refine RD.nv rfl rfl rfl (Gd.none rfl) ?_
       refine NV.buildSlice T rfl rfl rfl (Nat.le_of_ble_eq_true rfl) (by exact (rfl : _ = some [_, _, _, _])) ?_
       intro b45_1
       refine ⟨Stab.nil, ?_⟩
       refine RD.nv rfl rfl rfl (Gd.none rfl) ?_
       refine NV.apI1 (ki := .u8) (xs := bitsS f.id 11) (ys := [bI f.rtr, 0, bI (!decide (f.kind = 1)), bI (decide (f.kind = 3))]) T ?_ (hnews := rfl)
       intro a0_ c0_
       refine ⟨Stab.nil, ?_⟩
       refine RD.p T ?_
       refine RD.k rfl rfl ?_
       refine hK7 _ _ _ ?_
       refine SW.block ?_
       refine SW.loopM (fun frB mm fr ds HH => ∃ (k : Nat) (a : Option Addr) (c9 : Nat), mm = 19 - k ∧ (k ≤ 19) ∧ FrIs [4, 47, 48, 49, 50, 51, 52] frB fr [(4, .slice a (15 + k) c9)] ∧ ds = [] ∧ HH = (.row a (15 + k) c9 5 1 (((keyBb f ++ List.replicate k 0)).map (.int .u8)) :: .var b1_0 31 (FsC ⟨f, sa, n, c⟩) :: H)) (n := 19 - 0) ?_ ?_
       ·exact ⟨0, _, _, rfl, Nat.zero_le _, (.cons rfl (.nil (by repeat first | with_reducible exact Mx.refl | with_reducible exact Mx.mix | refine Mx.put rfl ?_ | refine Mx.upd rfl ?_ | refine Mx.updl rfl ?_ | refine Mx.fin rfl ?_ | refine Mx.inner rfl ?_ | refine Mx.none ?_ | exact Mx.refl | exact Mx.mix))), rfl, (by rw [List.replicate_zero, List.append_nil]; rfl)⟩
       ·rintro mm fr ds HH ⟨k, a, c9, rfl, hk, hFr, rfl, eHH⟩
        obtain rfl := eHH.symm
        obtain ⟨frU, rfl⟩ := hFr.eq
        clear hFr
        refine SW.seq_k fun K8 hK8 => ?_
        refine SW.seq_k fun K9 hK9 => ?_
        refine SW.region _ _ _ _ ?_
        refine RL.p T ?_
        refine RL.p T ?_
        refine RL.p T ?_
        refine RL.nil _ _ _ _ ?_
        refine hK9 _ _ _ ?_
        refine SW.cs (fun hc2 => ?_) (fun hc2 => ?_)
        ·skip
         first
          | (exfalso; clear hK9 K9; clear hK8 K8; clear hK7 K7; clear hK6 K6; clear hK5 K5; clear hK4 K4; clear hK2 K2; clear hK1 K1; clear hK0 K0; first | omega | contradiction | (simp_all; done))
          | (
           refine SW.skip ?_
           refine hK8 _ _ _ ?_
           refine SW.block ?_
           refine SW.region _ _ _ _ ?_
           refine RL.p T ?_
           refine RL.bs T rfl rfl rfl (by exact (rfl : _ = some [_])) (fun b51_2 => ?_)
           first | refine RL.apI1 (ki := .u8) T (fun a0_ c0_ => ?_) | refine RL.apI (ki := .u8) T (fun a0_ c0_ => ?_) | refine RL.apI (ki := .u8) (xs := []) T (fun a0_ c0_ => ?_)
           refine RL.p T ?_
           refine RL.nil _ _ _ _ ?_
           exact ⟨19 - (k + 1), (by omega), k + 1, a0_, c0_, (by rfl), (by omega), (.cons rfl (.nil (by repeat first | with_reducible exact Mx.refl | with_reducible exact Mx.mix | refine Mx.put rfl ?_ | refine Mx.upd rfl ?_ | refine Mx.updl rfl ?_ | refine Mx.fin rfl ?_ | refine Mx.inner rfl ?_ | refine Mx.none ?_ | exact Mx.refl | exact Mx.mix))), rfl, (by rw [pad_step]; rfl)⟩
           )
        ·skip
         first
          | (exfalso; clear hK9 K9; clear hK8 K8; clear hK7 K7; clear hK6 K6; clear hK5 K5; clear hK4 K4; clear hK2 K2; clear hK1 K1; clear hK0 K0; first | omega | contradiction | (simp_all; done))
          | (
           refine SW.exit ?_
           refine hK5 _ _ _ ?_
           refine SW.seq_k fun K10 hK10 => ?_
           obtain rfl : k = 19 := by omega
           refine SW.region _ _ _ _ ?_
           refine RL.p T ?_
           refine RL.c fun68 (fun hs => rnum _ _ _ (keyBb f ++ List.replicate 19 0) (Rd.rowh hs (by repeat first | exact At.head _ _ | apply At.tail | apply At.app)) (by simp [keyBb_len]) (by omega) (by simp [keyBb_len]) (pad_bit _)) ?_
           rintro _ _ ⟨rfl, e⟩; obtain rfl := e.symm
           refine RL.p T ?_
           refine RL.p T ?_
           refine RL.nil _ _ _ _ ?_
           refine hK10 _ _ _ ?_
           refine SW.ret ?_
           refine retQ.wk (H) ?_
           refine retQ.rr _ ?_ (hH := fun w hw => hw)
           clear hK10 K10 hK9 K9 hK8 K8 hK7 K7 hK6 K6 hK5 K5 hK4 K4 hK2 K2 hK1 K1 hK0 K0
           rw [keyB_num (by omega) hid he]
           exact ⟨rfl, rfl⟩
           )
       )
    )
theorem rkey {w0 : World} {H : List Chunk} (f : Frm) (sa : Option Addr) (n c : Nat) (hR : Rd w0 H sa n c 1 (f.data.map (.int .u8))) (hn : n = f.data.length) (hm : n ≤ 140737488351232) (hf : FrOk f) (hc : chkF f = 0) : SC Try.prog w0 56 #[FA f sa n c] H (fun v H' => v = .tuple #[.int .u64 (keyF f), .int .i64 0] ∧ H' = H) := by
  cases he : f.ext with
  | true => exact rkey_e f sa n c hR hn hm hf hc he
  | false => exact rkey_n f sa n c hR hn hm hf hc he
theorem rcompare {w0 : World} {H : List Chunk} (x y : Fs) (hx : FsOk w0 H x) (hy : FsOk w0 H y) (hcx : chkF x.f = 0) (hcy : chkF y.f = 0) : SC Try.prog w0 42 #[FsA x, FsA y] H (fun v H' => v = .tuple #[.int .i64 (cmpI (keyF x.f) (keyF y.f)), .int .i64 0] ∧ H' = H) := by
 refine SC.enter Try.func42 rfl (Nat.le_of_ble_eq_true rfl) ?_
 refine SW.seq_k fun K0 hK0 => ?_
 refine SW.region _ _ _ _ ?_
 refine RL.s ?_
 refine NV.box rfl (by exact (rfl : _ = [_, _, _, _, _, _, _, _, _, _, _])) ?_
 intro b2_0
 refine RL.s ?_
 refine NV.box rfl (by exact (rfl : _ = [_, _, _, _, _, _, _, _, _, _, _])) ?_
 intro b3_1
 refine RL.p T ?_
 refine RL.p T ?_
 refine RL.nil _ _ _ _ ?_
 refine hK0 _ _ _ ?_
 refine SW.seq_k fun K1 hK1 => ?_
 refine SW.region _ _ _ _ ?_
 refine RL.q (QV.vN T rfl rfl rfl rfl rfl (by exact (rfl : _ = [_, _, _, _, _, _, _, _, _, _, _]))) ?_
 refine RL.c fun56 (fun hs => rkey x.f x.a x.n x.c (by repeat first | exact hx.rd | apply Rd.cons | apply Rd.app) hx.len hx.max hx.ok hcx) ?_
 rintro _ _ ⟨rfl, e⟩; obtain rfl := e.symm
 refine RL.p T ?_
 refine RL.p T ?_
 refine RL.p T ?_
 refine RL.p T ?_
 refine RL.p T ?_
 refine RL.nil _ _ _ _ ?_
 refine hK1 _ _ _ ?_
 refine SW.seq_k fun K2 hK2 => ?_
 refine SW.region _ _ _ _ ?_
 refine RL.q (QV.vN T rfl rfl rfl rfl rfl (by exact (rfl : _ = [_, _, _, _, _, _, _, _, _, _, _]))) ?_
 refine RL.c fun56 (fun hs => rkey y.f y.a y.n y.c (by repeat first | exact hy.rd | apply Rd.cons | apply Rd.app) hy.len hy.max hy.ok hcy) ?_
 rintro _ _ ⟨rfl, e⟩; obtain rfl := e.symm
 refine RL.p T ?_
 refine RL.p T ?_
 refine RL.p T ?_
 refine RL.p T ?_
 refine RL.p T ?_
 refine RL.nil _ _ _ _ ?_
 refine hK2 _ _ _ ?_
 refine SW.seq_k fun K3 hK3 => ?_
 refine SW.seq_k fun K4 hK4 => ?_
 refine SW.region _ _ _ _ ?_
 refine RL.p T ?_
 refine RL.p T ?_
 refine RL.p T ?_
 refine RL.join (fr1 := ?_) 2 22 false [23, 24] (fun hs0 hj => ?_) ?_ ?_
 rotate_left
 ·have hs0j := hs0
  try simp only [decide_eq_true_eq, Bool.not_eq_true', decide_eq_false_iff_not, Bool.not_eq_false', Int.not_lt, Int.not_le, Int.toNat_natCast, Bool.and_eq_true, Bool.or_eq_true, Bool.and_eq_false_iff, Bool.or_eq_false_iff] at hs0
  refine RL.p T ?_
  refine RL.p T ?_
  exact hj
 ·repeat first | with_reducible exact Mx.refl | with_reducible exact Mx.mix | refine Mx.put rfl ?_ | refine Mx.upd rfl ?_ | refine Mx.updl rfl ?_ | refine Mx.fin rfl ?_ | refine Mx.inner rfl ?_ | refine Mx.none ?_ | exact Mx.refl | exact Mx.mix
 refine RL.or ?_
 refine RL.nil _ _ _ _ ?_
 refine hK4 _ _ _ ?_
 refine SW.cs (fun hc0 => ?_) (fun hc0 => ?_)
 ·skip
  first
   | (exfalso; first | omega | contradiction | (clear hK4 K4; clear hK3 K3; clear hK2 K2; clear hK1 K1; clear hK0 K0; simp at *; done))
   | (
    refine SW.seq_k fun K5 hK5 => ?_
    refine SW.region _ _ _ _ ?_
    refine RL.p T ?_
    refine RL.p T ?_
    refine RL.nil _ _ _ _ ?_
    refine hK5 _ _ _ ?_
    refine SW.ret ?_
    refine retQ.rr (H) ?_
    clear hK5 K5 hK4 K4 hK3 K3 hK2 K2 hK1 K1 hK0 K0
    first
      | (rw [show cmpI (keyF x.f) (keyF y.f) = -1 from if_pos (by omega)]; exact ⟨rfl, rfl⟩)
      | (rw [show cmpI (keyF x.f) (keyF y.f) = 1 from (if_neg (by omega)).trans (if_pos (by omega))]; exact ⟨rfl, rfl⟩)
      | (rw [show cmpI (keyF x.f) (keyF y.f) = 0 from (if_neg (by omega)).trans (if_neg (by omega))]; exact ⟨rfl, rfl⟩)
    )
 ·skip
  first
   | (exfalso; first | omega | contradiction | (clear hK4 K4; clear hK3 K3; clear hK2 K2; clear hK1 K1; clear hK0 K0; simp at *; done))
   | (
    refine SW.skip ?_
    refine hK3 _ _ _ ?_
    refine SW.seq_k fun K6 hK6 => ?_
    refine SW.seq_k fun K7 hK7 => ?_
    refine SW.region _ _ _ _ ?_
    refine RL.p T ?_
    refine RL.p T ?_
    refine RL.p T ?_
    refine RL.nil _ _ _ _ ?_
    refine hK7 _ _ _ ?_
    refine SW.cs (fun hc1 => ?_) (fun hc1 => ?_)
    ·skip
     first
      | (exfalso; first | omega | contradiction | (clear hK7 K7; clear hK6 K6; clear hK4 K4; clear hK3 K3; clear hK2 K2; clear hK1 K1; clear hK0 K0; simp at *; done))
      | (
       refine SW.seq_k fun K8 hK8 => ?_
       refine SW.region _ _ _ _ ?_
       refine RL.p T ?_
       refine RL.p T ?_
       refine RL.nil _ _ _ _ ?_
       refine hK8 _ _ _ ?_
       refine SW.ret ?_
       refine retQ.rr (H) ?_
       clear hK8 K8 hK7 K7 hK6 K6 hK4 K4 hK3 K3 hK2 K2 hK1 K1 hK0 K0
       first
         | (rw [show cmpI (keyF x.f) (keyF y.f) = -1 from if_pos (by omega)]; exact ⟨rfl, rfl⟩)
         | (rw [show cmpI (keyF x.f) (keyF y.f) = 1 from (if_neg (by omega)).trans (if_pos (by omega))]; exact ⟨rfl, rfl⟩)
         | (rw [show cmpI (keyF x.f) (keyF y.f) = 0 from (if_neg (by omega)).trans (if_neg (by omega))]; exact ⟨rfl, rfl⟩)
       )
    ·skip
     first
      | (exfalso; first | omega | contradiction | (clear hK7 K7; clear hK6 K6; clear hK4 K4; clear hK3 K3; clear hK2 K2; clear hK1 K1; clear hK0 K0; simp at *; done))
      | (
       refine SW.skip ?_
       refine hK6 _ _ _ ?_
       refine SW.seq_k fun K9 hK9 => ?_
       refine SW.seq_k fun K10 hK10 => ?_
       refine SW.region _ _ _ _ ?_
       refine RL.p T ?_
       refine RL.p T ?_
       refine RL.p T ?_
       refine RL.nil _ _ _ _ ?_
       refine hK10 _ _ _ ?_
       refine SW.cs (fun hc2 => ?_) (fun hc2 => ?_)
       ·skip
        first
         | (exfalso; first | omega | contradiction | (clear hK10 K10; clear hK9 K9; clear hK7 K7; clear hK6 K6; clear hK4 K4; clear hK3 K3; clear hK2 K2; clear hK1 K1; clear hK0 K0; simp at *; done))
         | (
          refine SW.seq_k fun K11 hK11 => ?_
          refine SW.region _ _ _ _ ?_
          refine RL.p T ?_
          refine RL.p T ?_
          refine RL.nil _ _ _ _ ?_
          refine hK11 _ _ _ ?_
          refine SW.ret ?_
          refine retQ.rr (H) ?_
          clear hK11 K11 hK10 K10 hK9 K9 hK7 K7 hK6 K6 hK4 K4 hK3 K3 hK2 K2 hK1 K1 hK0 K0
          first
            | (rw [show cmpI (keyF x.f) (keyF y.f) = -1 from if_pos (by omega)]; exact ⟨rfl, rfl⟩)
            | (rw [show cmpI (keyF x.f) (keyF y.f) = 1 from (if_neg (by omega)).trans (if_pos (by omega))]; exact ⟨rfl, rfl⟩)
            | (rw [show cmpI (keyF x.f) (keyF y.f) = 0 from (if_neg (by omega)).trans (if_neg (by omega))]; exact ⟨rfl, rfl⟩)
          )
       ·skip
        first
         | (exfalso; first | omega | contradiction | (clear hK10 K10; clear hK9 K9; clear hK7 K7; clear hK6 K6; clear hK4 K4; clear hK3 K3; clear hK2 K2; clear hK1 K1; clear hK0 K0; simp at *; done))
         | (
          refine SW.skip ?_
          refine hK9 _ _ _ ?_
          refine SW.seq_k fun K12 hK12 => ?_
          refine SW.region _ _ _ _ ?_
          refine RL.p T ?_
          refine RL.p T ?_
          refine RL.nil _ _ _ _ ?_
          refine hK12 _ _ _ ?_
          refine SW.ret ?_
          refine retQ.rr (H) ?_
          clear hK12 K12 hK10 K10 hK9 K9 hK7 K7 hK6 K6 hK4 K4 hK3 K3 hK2 K2 hK1 K1 hK0 K0
          first
            | (rw [show cmpI (keyF x.f) (keyF y.f) = -1 from if_pos (by omega)]; exact ⟨rfl, rfl⟩)
            | (rw [show cmpI (keyF x.f) (keyF y.f) = 1 from (if_neg (by omega)).trans (if_pos (by omega))]; exact ⟨rfl, rfl⟩)
            | (rw [show cmpI (keyF x.f) (keyF y.f) = 0 from (if_neg (by omega)).trans (if_neg (by omega))]; exact ⟨rfl, rfl⟩)
          )
       )
    )
end Go.Proofs.Ytjemdjjmpgjieaa.M
