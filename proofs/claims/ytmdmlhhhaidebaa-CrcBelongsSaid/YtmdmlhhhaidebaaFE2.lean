import Derived.Test.YtmdmlhhhaidebaaProg
import Derived.Test.YtmdmlhhhaidebaaFD2
import Derived.Test.YtmdmlhhhaidebaaS21
set_option linter.unusedVariables false
set_option linter.unusedSimpArgs false
namespace Go.Proofs.Ytmdmlhhhaidebaa.M
open Go Go.Sep Go.Proofs
set_option maxRecDepth 10000
set_option maxHeartbeats 2000000
theorem growNil {w0 : World} {H : List Chunk} (m : Nat) (hm : m ≤ 140737488351) : SC Try.prog w0 39 #[.slice none 0 0, .int .i64 m] H (fun v H' => ∃ a c, v = .slice a 0 c ∧ H' = .row a 0 c 5 1 (([] : List Int).map (.int .u8)) :: H) := by
 refine SC.enter Try.func39 rfl (Nat.le_of_ble_eq_true rfl) ?_
 refine SW.seq_k fun K0 hK0 => ?_
 refine SW.nilrow 5 1 ?_
 refine SW.region _ _ _ _ ?_
 refine RL.p T ?_
 refine RL.nil _ _ _ _ ?_
 refine hK0 _ _ _ ?_
 refine SW.seq_k fun K1 hK1 => ?_
 refine SW.seq_k fun K2 hK2 => ?_
 refine SW.region _ _ _ _ ?_
 refine RL.p T ?_
 refine RL.p T ?_
 refine RL.nil _ _ _ _ ?_
 refine hK2 _ _ _ ?_
 refine SW.cs (fun hc0 => ?_) (fun hc0 => ?_)
 ·skip
  exfalso; first | omega | contradiction
 ·skip
  first
   | (exfalso; first | omega | contradiction)
   | (
    refine SW.skip ?_
    refine hK1 _ _ _ ?_
    refine SW.seq_k fun K3 hK3 => ?_
    refine SW.seq_k fun K4 hK4 => ?_
    refine SW.region _ _ _ _ ?_
    refine RL.p T ?_
    refine RL.p T ?_
    refine RL.q (QV.cap T rfl rfl rfl rfl) ?_
    refine RL.p T ?_
    refine RL.p T ?_
    first | refine RL.ar ?_ | refine RL.p T ?_
    first | refine RL.ar ?_ | refine RL.p T ?_
    refine RL.p T ?_
    refine RL.nil _ _ _ _ ?_
    refine hK4 _ _ _ ?_
    refine SW.seq_k fun K5 hK5 => ?_
    refine SW.region _ _ _ _ ?_
    refine RL.p T ?_
    refine RL.p T ?_
    refine RL.nil _ _ _ _ ?_
    refine hK5 _ _ _ ?_
    refine SW.cs (fun hc1 => ?_) (fun hc1 => ?_)
    ·skip
     first
      | (exfalso; first | omega | contradiction)
      | (
       refine SW.region _ _ _ _ ?_
       refine RL.p T ?_
       refine RL.p T ?_
       refine RL.q (QV.cap T rfl rfl rfl rfl) ?_
       refine RL.sl T ?_
       refine RL.p T ?_
       refine RL.apZ (m := m) (xs := []) (ki := .u8) T (fun a0_ c0_ => ?_)
       refine RL.p T ?_
       refine RL.p T ?_
       refine RL.sl T ?_ (h1 := 0)
       refine RL.short 0 ?_
       refine RL.p T ?_
       refine RL.nil _ _ _ _ ?_
       refine hK3 _ _ _ ?_
       refine SW.seq_k fun K6 hK6 => ?_
       refine SW.region _ _ _ _ ?_
       refine RL.p T ?_
       refine RL.p T ?_
       refine RL.nil _ _ _ _ ?_
       refine hK6 _ _ _ ?_
       refine SW.ret ?_
       refine retQ.rr ((.row a0_ 0 c0_ 5 1 (([] : List Int).map (.int .u8)) :: H)) ?_
       clear hK6 K6 hK5 K5 hK4 K4 hK3 K3 hK2 K2 hK1 K1 hK0 K0
       first
         | exact ⟨a0_, c0_, by rw [subA_zero a0_]; rfl, rfl⟩
         | exact ⟨_, _, rfl, rfl⟩
       )
    ·skip
     first
      | (exfalso; first | omega | contradiction)
      | (
       refine SW.skip ?_
       refine hK3 _ _ _ ?_
       refine SW.seq_k fun K7 hK7 => ?_
       refine SW.region _ _ _ _ ?_
       refine RL.p T ?_
       refine RL.p T ?_
       refine RL.nil _ _ _ _ ?_
       refine hK7 _ _ _ ?_
       refine SW.ret ?_
       refine retQ.rr ((.row none 0 0 5 1 (([] : List Int).map (.int .u8)) :: H)) ?_
       clear hK7 K7 hK5 K5 hK4 K4 hK3 K3 hK2 K2 hK1 K1 hK0 K0
       first
         | exact ⟨a0_, c0_, by rw [subA_zero a0_]; rfl, rfl⟩
         | exact ⟨_, _, rfl, rfl⟩
       )
    )
theorem concat {w0 : World} {H : List Chunk} (L : List Sl) (sr : Option Addr) (nr cr : Nat) (hL : Rd w0 H sr nr cr 1 (L.map SlV)) (hnr : nr = L.length) (hmr : nr ≤ 140737488351232) (hok : ∀ k, SlOk w0 H (L.getD k default)) (htot : (catD L).length ≤ 140737488351) : SC Try.prog w0 28 #[.slice sr nr cr] H (fun v H' => ∃ a c, v = .slice a (catD L).length c ∧ H' = .row a (catD L).length c 5 1 ((catD L).map (.int .u8)) :: H) := by
 refine SC.enter Try.func28 rfl (Nat.le_of_ble_eq_true rfl) ?_
 refine SW.seq_k fun K0 hK0 => ?_
 refine SW.region _ _ _ _ ?_
 refine RL.p T ?_
 refine RL.nil _ _ _ _ ?_
 refine hK0 _ _ _ ?_
 refine SW.seq_k fun K1 hK1 => ?_
 refine SW.region _ _ _ _ ?_
 refine RL.p T ?_
 refine RL.nil _ _ _ _ ?_
 refine hK1 _ _ _ ?_
 refine SW.seq_k fun K2 hK2 => ?_
 refine SW.seq_k fun K3 hK3 => ?_
 refine SW.region _ _ _ _ ?_
 refine RL.p T ?_
 refine RL.p T ?_
 refine RL.p T ?_
 refine RL.nil _ _ _ _ ?_
 refine hK3 _ _ _ ?_
 refine SW.block ?_
 refine SW.loopM (fun frB mm fr ds HH => ∃ (k : Nat) , mm = nr - k ∧ (k ≤ nr ∧ (True)) ∧ FrIs [3, 5, 11, 12, 13, 14, 15, 16, 17, 18, 19, 20, 21, 22] frB fr [(11, .int .i64 k), (3, .int .i64 (catD (L.take k)).length)] ∧ ds = [] ∧ HH = H) (n := nr - 0) ?_ ?_
 ·exact ⟨0, rfl, ⟨Nat.zero_le _, trivial⟩, (.cons rfl (.consI rfl (by first | omega | rfl) (.nil (by repeat first | exact Mx.refl | exact Mx.mix | refine Mx.put rfl ?_ | refine Mx.upd rfl ?_ | refine Mx.updl rfl ?_ | refine Mx.fin rfl ?_ | refine Mx.inner rfl ?_ | refine Mx.none ?_)))), rfl, rfl⟩
 ·rintro mm fr ds HH ⟨k, rfl, ⟨hk, _⟩, hFr, rfl, eHH⟩
  obtain rfl := eHH.symm
  obtain ⟨frU, rfl⟩ := hFr.eq
  clear hFr
  have hq := hok k
  have hle := catD_le L (k + 1)
  have hst : k < L.length → _ := fun h => catD_len h (hq.len)
  have hqm := hq.max
  refine SW.seq_k fun K4 hK4 => ?_
  refine SW.region _ _ _ _ ?_
  refine RL.p T ?_
  refine RL.nil _ _ _ _ ?_
  refine hK4 _ _ _ ?_
  refine SW.seq_k fun K5 hK5 => ?_
  refine SW.cs (fun hc0 => ?_) (fun hc0 => ?_)
  ·skip
   first
    | (exfalso; first | omega | contradiction)
    | (
     refine SW.skip ?_
     refine hK5 _ _ _ ?_
     refine SW.seq_k fun K6 hK6 => ?_
     refine SW.block ?_
     refine SW.seq_k fun K7 hK7 => ?_
     refine SW.region _ _ _ _ ?_
     refine RL.ix T ?_ (hR := fun hs => (by repeat first | exact hL | apply Rd.cons | apply Rd.app))
     refine RL.le T ?_ (hR := fun hs => (by repeat first | exact hL | apply Rd.cons | apply Rd.app)) (hv := slv_get (by omega))
     refine RL.p T ?_
     refine RL.nil _ _ _ _ ?_
     refine hK7 _ _ _ ?_
     refine SW.seq_k fun K8 hK8 => ?_
     refine SW.region _ _ _ _ ?_
     refine RL.p T ?_
     refine RL.p T ?_
     refine RL.p T ?_
     first | refine RL.ar ?_ | refine RL.p T ?_
     refine RL.p T ?_
     refine RL.nil _ _ _ _ ?_
     refine hK8 _ _ _ ?_
     refine SW.seq_k fun K9 hK9 => ?_
     refine SW.region _ _ _ _ ?_
     refine RL.p T ?_
     refine RL.p T ?_
     refine RL.nil _ _ _ _ ?_
     refine hK9 _ _ _ ?_
     refine SW.cs (fun hc1 => ?_) (fun hc1 => ?_)
     ·skip
      exfalso; first | omega | contradiction
     ·skip
      first
       | (exfalso; first | omega | contradiction)
       | (
        refine SW.skip ?_
        refine hK6 _ _ _ ?_
        refine SW.region _ _ _ _ ?_
        first | refine RL.ar ?_ | refine RL.p T ?_
        refine RL.p T ?_
        refine RL.nil _ _ _ _ ?_
        exact ⟨nr - (k + 1), (by omega), k + 1, (by rfl), ⟨by omega, trivial⟩, (.cons rfl (.consI rfl (by first | omega | rfl) (.nil (by repeat first | exact Mx.refl | exact Mx.mix | refine Mx.put rfl ?_ | refine Mx.upd rfl ?_ | refine Mx.updl rfl ?_ | refine Mx.fin rfl ?_ | refine Mx.inner rfl ?_ | refine Mx.none ?_)))), rfl, rfl⟩
        )
     )
  ·skip
   first
    | (exfalso; first | omega | contradiction)
    | (
     refine SW.exit ?_
     refine hK2 _ _ _ ?_
     refine SW.seq_k fun K10 hK10 => ?_
     rw [List.take_of_length_le (by omega)]
     refine SW.region _ _ _ _ ?_
     refine RL.p T ?_
     refine RL.c fun39 (fun hs => growNil (catD L).length htot) ?_
     rintro _ _ ⟨ag, cg, rfl, e⟩; obtain rfl := e.symm
     refine RL.p T ?_
     refine RL.nil _ _ _ _ ?_
     refine hK10 _ _ _ ?_
     refine SW.seq_k fun K11 hK11 => ?_
     refine SW.seq_k fun K12 hK12 => ?_
     refine SW.region _ _ _ _ ?_
     refine RL.p T ?_
     refine RL.p T ?_
     refine RL.p T ?_
     refine RL.nil _ _ _ _ ?_
     refine hK12 _ _ _ ?_
     refine SW.block ?_
     refine SW.loopM (fun frB mm fr ds HH => ∃ (k : Nat) (a : Option Addr) (m c : Nat), mm = nr - k ∧ (k ≤ nr ∧ m = (catD (L.take k)).length) ∧ FrIs [6, 8, 27, 28, 29, 30, 31, 32, 33, 34] frB fr [(6, .slice a m c), (27, .int .i64 k)] ∧ ds = [] ∧ HH = (.row a m c 5 1 ((catD (L.take k)).map (.int .u8)) :: H)) (n := nr - 0) ?_ ?_
     ·exact ⟨0, ag, 0, cg, rfl, ⟨Nat.zero_le _, rfl⟩, (.cons rfl (.consI rfl (by first | omega | rfl) (.nil (by repeat first | exact Mx.refl | exact Mx.mix | refine Mx.put rfl ?_ | refine Mx.upd rfl ?_ | refine Mx.updl rfl ?_ | refine Mx.fin rfl ?_ | refine Mx.inner rfl ?_ | refine Mx.none ?_)))), rfl, rfl⟩
     ·rintro mm fr ds HH ⟨k, a, m, c, rfl, ⟨hk, hm⟩, hFr, rfl, eHH⟩
      obtain rfl := eHH.symm
      obtain ⟨frU, rfl⟩ := hFr.eq
      clear hFr
      have hq := hok k
      have hle := catD_le L (k + 1)
      have hst : k < L.length → _ := fun h => catD_len h (hq.len)
      refine SW.seq_k fun K13 hK13 => ?_
      refine SW.region _ _ _ _ ?_
      refine RL.p T ?_
      refine RL.nil _ _ _ _ ?_
      refine hK13 _ _ _ ?_
      refine SW.seq_k fun K14 hK14 => ?_
      refine SW.cs (fun hc2 => ?_) (fun hc2 => ?_)
      ·skip
       first
        | (exfalso; first | omega | contradiction)
        | (
         refine SW.skip ?_
         refine hK14 _ _ _ ?_
         refine SW.seq_k fun K15 hK15 => ?_
         refine SW.block ?_
         refine SW.seq_k fun K16 hK16 => ?_
         refine SW.region _ _ _ _ ?_
         refine RL.ix T ?_ (hR := fun hs => (by repeat first | exact hL | apply Rd.cons | apply Rd.app))
         refine RL.le T ?_ (hR := fun hs => (by repeat first | exact hL | apply Rd.cons | apply Rd.app)) (hv := slv_get (by omega))
         refine RL.p T ?_
         refine RL.nil _ _ _ _ ?_
         refine hK16 _ _ _ ?_
         refine SW.region _ _ _ _ ?_
         refine RL.p T ?_
         refine RL.p T ?_
         refine RL.apI (ki := .u8) (ys := (L.getD k default).d) T (fun a1_ c1_ => ?_) (hR := fun hs => hq.rd.cons)
         refine RL.p T ?_
         refine RL.nil _ _ _ _ ?_
         refine hK15 _ _ _ ?_
         refine SW.region _ _ _ _ ?_
         first | refine RL.ar ?_ | refine RL.p T ?_
         refine RL.p T ?_
         refine RL.nil _ _ _ _ ?_
         exact ⟨nr - (k + 1), (by omega), k + 1, a1_, m + (L.getD k default).n, c1_, (by rfl), ⟨by omega, by omega⟩, (.cons rfl (.consI rfl (by first | omega | rfl) (.nil (by repeat first | exact Mx.refl | exact Mx.mix | refine Mx.put rfl ?_ | refine Mx.upd rfl ?_ | refine Mx.updl rfl ?_ | refine Mx.fin rfl ?_ | refine Mx.inner rfl ?_ | refine Mx.none ?_)))), rfl, (by rw [catD_take (by omega)])⟩
         )
      ·skip
       first
        | (exfalso; first | omega | contradiction)
        | (
         refine SW.exit ?_
         refine hK11 _ _ _ ?_
         refine SW.seq_k fun K17 hK17 => ?_
         rw [List.take_of_length_le (by omega)] at hm ⊢
         subst hm
         refine SW.region _ _ _ _ ?_
         refine RL.p T ?_
         refine RL.p T ?_
         refine RL.nil _ _ _ _ ?_
         refine hK17 _ _ _ ?_
         refine SW.ret ?_
         refine retQ.rr ((.row a (catD L).length c 5 1 ((catD L).map (.int .u8)) :: H)) ?_
         clear hK17 K17 hK14 K14 hK13 K13 hK12 K12 hK11 K11 hK10 K10 hK5 K5 hK4 K4 hK3 K3 hK2 K2 hK1 K1 hK0 K0
         exact ⟨_, _, rfl, rfl⟩
         )
     )
end Go.Proofs.Ytmdmlhhhaidebaa.M
