import Derived.Test.YtjemdjjmpgjieaaProg
import Derived.Test.YtjemdjjmpgjieaaFK14
import Derived.Test.YtjemdjjmpgjieaaS37
import Derived.Test.YtjemdjjmpgjieaaP14b
set_option linter.unusedVariables false
set_option linter.unusedSimpArgs false
namespace Go.Proofs.Ytjemdjjmpgjieaa.M
open Go Go.Sep Go.Proofs
set_option maxRecDepth 10000
set_option maxHeartbeats 2000000
theorem compareF {w0 : World} {H : List Chunk} (x y : Fs) (hx : FsOk w0 H x) (hy : FsOk w0 H y) (hcx : chkF x.f = 0) (hcy : chkF y.f = 0) : SC Try.prog w0 30 #[FsA x, FsA y] H (fun v H' => v = .tuple #[.int .i64 (cmpI (keyF x.f) (keyF y.f)), .int .i64 0] ∧ H' = H) := by
 refine SC.enter Try.func30 rfl (Nat.le_of_ble_eq_true rfl) ?_
 refine SW.seq_k fun K0 hK0 => ?_
 refine SW.region _ _ _ _ ?_
 refine RL.s ?_
 refine NV.box rfl (by exact (rfl : _ = [_, _, _, _, _, _, _, _, _, _, _])) ?_
 intro b2_0
 refine RL.s ?_
 refine NV.box rfl (by exact (rfl : _ = [_, _, _, _, _, _, _, _, _, _, _])) ?_
 intro b3_1
 refine RL.p T ?_
 refine RL.p T ?_
 refine RL.nil _ _ _ _ ?_
 refine hK0 _ _ _ ?_
 refine SW.seq_k fun K1 hK1 => ?_
 refine SW.region _ _ _ _ ?_
 refine RL.q (QV.vN T rfl rfl rfl rfl rfl (by exact (rfl : _ = [_, _, _, _, _, _, _, _, _, _, _]))) ?_
 refine RL.c fun31 (fun hs => key x.f x.a x.n x.c (by repeat first | exact hx.rd | apply Rd.cons | apply Rd.app) hx.len hx.max hx.ok hcx) ?_
 rintro _ _ ⟨rfl, e⟩; obtain rfl := e.symm
 refine RL.p T ?_
 refine RL.p T ?_
 refine RL.p T ?_
 refine RL.p T ?_
 refine RL.p T ?_
 refine RL.nil _ _ _ _ ?_
 refine hK1 _ _ _ ?_
 refine SW.seq_k fun K2 hK2 => ?_
 refine SW.region _ _ _ _ ?_
 refine RL.q (QV.vN T rfl rfl rfl rfl rfl (by exact (rfl : _ = [_, _, _, _, _, _, _, _, _, _, _]))) ?_
 refine RL.c fun31 (fun hs => key y.f y.a y.n y.c (by repeat first | exact hy.rd | apply Rd.cons | apply Rd.app) hy.len hy.max hy.ok hcy) ?_
 rintro _ _ ⟨rfl, e⟩; obtain rfl := e.symm
 refine RL.p T ?_
 refine RL.p T ?_
 refine RL.p T ?_
 refine RL.p T ?_
 refine RL.p T ?_
 refine RL.nil _ _ _ _ ?_
 refine hK2 _ _ _ ?_
 refine SW.seq_k fun K3 hK3 => ?_
 refine SW.seq_k fun K4 hK4 => ?_
 refine SW.region _ _ _ _ ?_
 refine RL.p T ?_
 refine RL.p T ?_
 refine RL.p T ?_
 refine RL.join (fr1 := ?_) 2 22 false [23, 24] (fun hs0 hj => ?_) ?_ ?_
 rotate_left
 ·have hs0j := hs0
  try simp only [decide_eq_true_eq, Bool.not_eq_true', decide_eq_false_iff_not, Bool.not_eq_false', Int.not_lt, Int.not_le, Int.toNat_natCast, Bool.and_eq_true, Bool.or_eq_true, Bool.and_eq_false_iff, Bool.or_eq_false_iff] at hs0
  refine RL.p T ?_
  refine RL.p T ?_
  exact hj
 ·repeat first | with_reducible exact Mx.refl | with_reducible exact Mx.mix | refine Mx.put rfl ?_ | refine Mx.upd rfl ?_ | refine Mx.updl rfl ?_ | refine Mx.fin rfl ?_ | refine Mx.inner rfl ?_ | refine Mx.none ?_ | exact Mx.refl | exact Mx.mix
 refine RL.or ?_
 refine RL.nil _ _ _ _ ?_
 refine hK4 _ _ _ ?_
 refine SW.cs (fun hc0 => ?_) (fun hc0 => ?_)
 ·skip
  first
   | (exfalso; first | omega | contradiction | (clear hK4 K4; clear hK3 K3; clear hK2 K2; clear hK1 K1; clear hK0 K0; simp at *; done))
   | (
    refine SW.seq_k fun K5 hK5 => ?_
    refine SW.region _ _ _ _ ?_
    refine RL.p T ?_
    refine RL.p T ?_
    refine RL.nil _ _ _ _ ?_
    refine hK5 _ _ _ ?_
    refine SW.ret ?_
    refine retQ.rr (H) ?_
    clear hK5 K5 hK4 K4 hK3 K3 hK2 K2 hK1 K1 hK0 K0
    exact ⟨rfl, rfl⟩
    )
 ·skip
  first
   | (exfalso; first | omega | contradiction | (clear hK4 K4; clear hK3 K3; clear hK2 K2; clear hK1 K1; clear hK0 K0; simp at *; done))
   | (
    refine SW.skip ?_
    refine hK3 _ _ _ ?_
    refine SW.seq_k fun K6 hK6 => ?_
    refine SW.region _ _ _ _ ?_
    refine RL.p T ?_
    refine RL.p T ?_
    refine RL.c fun48 (fun hs => cmp_u64 (keyF x.f) (keyF y.f)) ?_
    rintro _ _ ⟨rfl, e⟩; obtain rfl := e.symm
    refine RL.p T ?_
    refine RL.p T ?_
    refine RL.nil _ _ _ _ ?_
    refine hK6 _ _ _ ?_
    refine SW.ret ?_
    refine retQ.rr (H) ?_
    clear hK6 K6 hK4 K4 hK3 K3 hK2 K2 hK1 K1 hK0 K0
    exact ⟨rfl, rfl⟩
    )
theorem fill {w0 : World} {H : List Chunk} (ls : List Fs) (sr : Option Addr) (nr cr : Nat) (hB : ∀ H, Rd w0 H sr nr cr 11 (ls.flatMap FsC)) (hnr : nr = ls.length) (hmr : nr ≤ 4398046511000) (hls : ∀ H, ∀ y ∈ ls, FsOk w0 H y) (hs1 : nr ≤ 100) : SC Try.prog w0 27 #[.slice sr nr cr] H (fun v H' => ∃ bq a n c L G, v = .tuple #[.pointer (some ⟨bq, 0, none⟩), .int .i64 (n : Nat)] ∧ H' = (.var bq 73 [.int .i64 64, .int .i64 (n : Nat), .slice a n c] :: .row a n c 80 13 (List.flatMap EnC (L)) :: (G ++ H)) ∧ n = L.length ∧ n ≤ 64 ∧ QI w0 L (n : Nat) G) := by
 refine SC.enter Try.func27 rfl (Nat.le_of_ble_eq_true rfl) ?_
 refine SW.seq_k fun K0 hK0 => ?_
 refine SW.region _ _ _ _ ?_
 refine RL.p T ?_
 refine RL.p T ?_
 refine RL.nil _ _ _ _ ?_
 refine hK0 _ _ _ ?_
 refine SW.seq_k fun K1 hK1 => ?_
 refine SW.region _ _ _ _ ?_
 refine RL.c fun10 (fun hs => qnew 64 (by omega)) ?_
 rintro _ _ ⟨bq, rfl, e⟩; obtain rfl := e.symm
 refine RL.p T ?_
 refine RL.p T ?_
 refine RL.p T ?_
 refine RL.p T ?_
 refine RL.p T ?_
 refine RL.nil _ _ _ _ ?_
 refine hK1 _ _ _ ?_
 refine SW.seq_k fun K2 hK2 => ?_
 refine SW.nilrow 80 13 ?_
 refine SW.wk (.var bq 73 [.int .i64 64, .int .i64 (0 : Nat), .slice none 0 0] :: .row none 0 0 80 13 (List.flatMap EnC ([])) :: ([] ++ H)) ?_
 refine SW.region _ _ _ _ ?_
 refine RL.p T ?_
 refine RL.nil _ _ _ _ ?_
 refine hK2 _ _ _ ?_
 refine SW.seq_k fun K3 hK3 => ?_
 refine SW.seq_k fun K4 hK4 => ?_
 refine SW.region _ _ _ _ ?_
 refine RL.p T ?_
 refine RL.p T ?_
 refine RL.p T ?_
 refine RL.nil _ _ _ _ ?_
 refine hK4 _ _ _ ?_
 refine SW.block ?_
 refine SW.loopM (fun frB mm fr ds HH => ∃ (k : Nat) (m : Nat) (a : Option Addr) (c : Nat) (L : List En) (G : List Chunk), mm = nr - k ∧ (k ≤ nr ∧ (m = L.length ∧ m ≤ 64 ∧ QI w0 L (m : Nat) G)) ∧ FrIs [6, 8, 9, 10, 17, 18, 19, 20, 21, 22, 23, 24, 25, 26, 27, 28, 29, 30, 31] frB fr [(17, .int .i64 k), (6, .int .i64 m)] ∧ ds = [] ∧ HH = (.var bq 73 [.int .i64 64, .int .i64 (m : Nat), .slice a m c] :: .row a m c 80 13 (List.flatMap EnC (L)) :: (G ++ H))) (n := nr - 0) ?_ ?_
 ·exact ⟨0, 0, none, 0, [], [], rfl, ⟨Nat.zero_le _, ⟨rfl, Nat.zero_le _, QI.nil⟩⟩, (.cons rfl (.consI rfl (by first | omega | rfl) (.nil (by repeat first | with_reducible exact Mx.refl | with_reducible exact Mx.mix | refine Mx.put rfl ?_ | refine Mx.upd rfl ?_ | refine Mx.updl rfl ?_ | refine Mx.fin rfl ?_ | refine Mx.inner rfl ?_ | refine Mx.none ?_ | exact Mx.refl | exact Mx.mix)))), rfl, rfl⟩
 ·rintro mm fr ds HH ⟨k, m, a, c, L, G, rfl, ⟨hk, ⟨hLm, hmr2, hqi⟩⟩, hFr, rfl, eHH⟩
  obtain rfl := eHH.symm
  obtain ⟨frU, rfl⟩ := hFr.eq
  clear hFr
  have hx := fun HH => getF_mem (hls HH) k
  refine SW.seq_k fun K5 hK5 => ?_
  refine SW.region _ _ _ _ ?_
  refine RL.p T ?_
  refine RL.nil _ _ _ _ ?_
  refine hK5 _ _ _ ?_
  refine SW.seq_k fun K6 hK6 => ?_
  refine SW.cs (fun hc0 => ?_) (fun hc0 => ?_)
  ·skip
   first
    | (exfalso; first | omega | contradiction | (clear hK6 K6; clear hK5 K5; clear hK4 K4; clear hK3 K3; clear hK2 K2; clear hK1 K1; clear hK0 K0; simp at *; done))
    | (
     refine SW.skip ?_
     refine hK6 _ _ _ ?_
     refine SW.seq_k fun K7 hK7 => ?_
     refine SW.block ?_
     refine SW.seq_k fun K8 hK8 => ?_
     refine SW.region _ _ _ _ ?_
     refine RL.ix T ?_ (hR := fun hs => (hB _))
     refine RL.leN T ?_ (hR := fun hs => (hB _)) (hvs := (by exact (rfl : _ = [_, _, _, _, _, _, _, _, _, _, _])))
     refine RL.s ?_
     refine NV.alloc T rfl rfl rfl (by exact (rfl : _ = [_, _, _, _, _, _, _, _, _, _, _])) ?_
     intro b8_0
     refine RL.s ?_
     refine NV.sN T rfl rfl rfl (by exact (rfl : _ = [_, _, _, _, _, _, _, _, _, _, _])) (by exact (rfl : _ = [_, _, _, _, _, _, _, _, _, _, _])) ?_
     refine RL.nil _ _ _ _ ?_
     refine hK8 _ _ _ ?_
     refine SW.seq_k fun K9 hK9 => ?_
     refine SW.region _ _ _ _ ?_
     refine RL.p T ?_
     refine RL.q (QV.vN T rfl rfl rfl rfl rfl (by exact (rfl : _ = [_, _, _, _, _, _, _, _, _, _, _]))) ?_
     refine RL.c fun11 (fun hs => SC.wk (putU bq 64 (m : Nat) a m c L hLm (by omega) (ls.getD k default) (hx _) (by omega) (by omega) (H := .var b8_0 31 [.int .i64 (ls.getD k default).f.kind, .int .u32 (ls.getD k default).f.id, .bool (ls.getD k default).f.ext, .bool (ls.getD k default).f.rtr, .bool (ls.getD k default).f.brs, .bool (ls.getD k default).f.esi, .bool (ls.getD k default).f.sec, .int .u8 (ls.getD k default).f.sdt, .int .u8 (ls.getD k default).f.vcid, .int .u32 (ls.getD k default).f.af, .slice (ls.getD k default).a (ls.getD k default).n (ls.getD k default).c] :: (G ++ H)))) ?_
     rintro _ _ ⟨no, er, last', a', n', c', L', D, rfl, e, hn', hlin, hL'⟩; obtain rfl := e.symm
     have hqi2 := hqi.put (by omega) hLm hlin hL'
     obtain rfl : last' = ((n' : Nat) : Int) := by omega
     refine RL.p T ?_
     refine RL.p T ?_
     refine RL.p T ?_
     refine RL.p T ?_
     refine RL.p T ?_
     refine RL.nil _ _ _ _ ?_
     refine hK9 _ _ _ ?_
     refine SW.seq_k fun K10 hK10 => ?_
     refine SW.region _ _ _ _ ?_
     refine RL.p T ?_
     refine RL.p T ?_
     refine RL.nil _ _ _ _ ?_
     refine hK10 _ _ _ ?_
     refine SW.cs (fun hc1 => ?_) (fun hc1 => ?_)
     ·skip
      first
       | (exfalso; first | omega | contradiction | (clear hK10 K10; clear hK9 K9; clear hK8 K8; clear hK7 K7; clear hK6 K6; clear hK5 K5; clear hK4 K4; clear hK3 K3; clear hK2 K2; clear hK1 K1; clear hK0 K0; simp at *; done))
       | (
        refine SW.region _ _ _ _ ?_
        refine RL.p T ?_
        first | refine RL.ar ?_ | refine RL.p T ?_
        refine RL.p T ?_
        refine RL.nil _ _ _ _ ?_
        refine hK7 _ _ _ ?_
        refine SW.region _ _ _ _ ?_
        first | refine RL.ar ?_ | refine RL.p T ?_
        refine RL.p T ?_
        refine RL.wk (.var bq 73 [.int .i64 64, .int .i64 (n' : Nat), .slice a' n' c'] :: .row a' n' c' 80 13 (List.flatMap EnC (L')) :: ((D ++ G) ++ H)) ?_
        refine RL.nil _ _ _ _ ?_
        exact ⟨nr - (k + 1), (by omega), k + 1, n', a', c', L', D ++ G, (by rfl), ⟨by omega, ⟨hn', by omega, hqi2⟩⟩, (.cons rfl (.consI rfl (by first | omega | rfl) (.nil (by repeat first | with_reducible exact Mx.refl | with_reducible exact Mx.mix | refine Mx.put rfl ?_ | refine Mx.upd rfl ?_ | refine Mx.updl rfl ?_ | refine Mx.fin rfl ?_ | refine Mx.inner rfl ?_ | refine Mx.none ?_ | exact Mx.refl | exact Mx.mix)))), rfl, rfl⟩
        )
     ·skip
      first
       | (exfalso; first | omega | contradiction | (clear hK10 K10; clear hK9 K9; clear hK8 K8; clear hK7 K7; clear hK6 K6; clear hK5 K5; clear hK4 K4; clear hK3 K3; clear hK2 K2; clear hK1 K1; clear hK0 K0; simp at *; done))
       | (
        refine SW.skip ?_
        refine hK7 _ _ _ ?_
        refine SW.region _ _ _ _ ?_
        first | refine RL.ar ?_ | refine RL.p T ?_
        refine RL.p T ?_
        refine RL.wk (.var bq 73 [.int .i64 64, .int .i64 (n' : Nat), .slice a' n' c'] :: .row a' n' c' 80 13 (List.flatMap EnC (L')) :: ((D ++ G) ++ H)) ?_
        refine RL.nil _ _ _ _ ?_
        exact ⟨nr - (k + 1), (by omega), k + 1, n', a', c', L', D ++ G, (by rfl), ⟨by omega, ⟨hn', by omega, hqi2⟩⟩, (.cons rfl (.consI rfl (by first | omega | rfl) (.nil (by repeat first | with_reducible exact Mx.refl | with_reducible exact Mx.mix | refine Mx.put rfl ?_ | refine Mx.upd rfl ?_ | refine Mx.updl rfl ?_ | refine Mx.fin rfl ?_ | refine Mx.inner rfl ?_ | refine Mx.none ?_ | exact Mx.refl | exact Mx.mix)))), rfl, rfl⟩
        )
     )
  ·skip
   first
    | (exfalso; first | omega | contradiction | (clear hK6 K6; clear hK5 K5; clear hK4 K4; clear hK3 K3; clear hK2 K2; clear hK1 K1; clear hK0 K0; simp at *; done))
    | (
     refine SW.exit ?_
     refine hK3 _ _ _ ?_
     refine SW.seq_k fun K11 hK11 => ?_
     refine SW.region _ _ _ _ ?_
     refine RL.p T ?_
     refine RL.p T ?_
     refine RL.p T ?_
     refine RL.p T ?_
     refine RL.nil _ _ _ _ ?_
     refine hK11 _ _ _ ?_
     refine SW.ret ?_
     refine retQ.wk ((.var bq 73 [.int .i64 64, .int .i64 (m : Nat), .slice a m c] :: .row a m c 80 13 (List.flatMap EnC (L)) :: (G ++ H))) ?_
     refine retQ.rr _ ?_ (hH := fun w hw => hw)
     clear hK11 K11 hK6 K6 hK5 K5 hK4 K4 hK3 K3 hK2 K2 hK1 K1 hK0 K0
     exact ⟨_, _, _, _, _, _, rfl, rfl, hLm, hmr2, hqi⟩
     )
end Go.Proofs.Ytjemdjjmpgjieaa.M
