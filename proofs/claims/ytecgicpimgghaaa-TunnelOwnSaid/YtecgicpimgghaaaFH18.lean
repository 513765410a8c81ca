import Derived.Test.YtecgicpimgghaaaProg
import Derived.Test.YtecgicpimgghaaaFF18
set_option linter.unusedVariables false
set_option linter.unusedSimpArgs false
namespace Go.Proofs.Ytecgicpimgghaaa.M
open Go Go.Sep Go.Proofs
set_option maxRecDepth 10000
set_option maxHeartbeats 2000000
theorem wrap {w0 : World} {H : List Chunk} (id vcid sdt : Int) (h0 : 0 ≤ id ∧ id ≤ 4294967295) (h1 : 0 ≤ vcid ∧ vcid ≤ 255) (h2 : 0 ≤ sdt ∧ sdt ≤ 255) (sa : Option Addr) (n c : Nat) (es : List Int) (hR : Rd w0 H sa n c 1 (es.map (.int .u8))) (hn : n = es.length) (hm : n ≤ 140737488351232) (hB : Byte es) : SC Try.prog w0 20 #[.int .u32 id, .int .u8 vcid, .int .u8 sdt, .slice sa n c] H (fun v H' => FrV w0 H (wrapR id vcid sdt es) (chkF (wrapF id vcid sdt es)) v H') := by
 refine SC.enter Try.func20 rfl (Nat.le_of_ble_eq_true rfl) ?_
 refine SW.seq_k fun K0 hK0 => ?_
 refine SW.region _ _ _ _ ?_
 refine RL.s ?_
 refine NV.alloc T rfl rfl rfl (by exact (rfl : _ = [_, _, _, _, _, _, _, _, _, _, _])) ?_
 intro b8_0
 refine RL.p T ?_
 refine RL.nil _ _ _ _ ?_
 refine hK0 _ _ _ ?_
 refine SW.seq_k fun K1 hK1 => ?_
 refine SW.region _ _ _ _ ?_
 refine RL.p T ?_
 refine RL.p T ?_
 refine RL.p T ?_
 refine RL.p T ?_
 refine RL.c fun31 (fun hs => clone sa n c es (by repeat first | exact hR | apply Rd.cons | apply Rd.app) hn hm) ?_
 rintro _ _ ⟨a1, c1, rfl, e⟩; obtain rfl := e.symm
 refine RL.s ?_
 refine NV.pure T (rfl : _ = some (Value.agg #[_, _, _, _, _, _, _, _, _, _, _])) ?_
 refine RL.s ?_
 refine NV.alloc T rfl rfl rfl (by exact (rfl : _ = [_, _, _, _, _, _, _, _, _, _, _])) ?_
 intro b10_1
 refine RL.s ?_
 refine NV.sN T rfl rfl rfl (by exact (rfl : _ = [_, _, _, _, _, _, _, _, _, _, _])) (by exact (rfl : _ = [_, _, _, _, _, _, _, _, _, _, _])) ?_
 refine RL.nil _ _ _ _ ?_
 refine hK1 _ _ _ ?_
 refine SW.seq_k fun K2 hK2 => ?_
 refine SW.seq_k fun K3 hK3 => ?_
 refine SW.region _ _ _ _ ?_
 refine RL.q (QV.vN T rfl rfl rfl rfl rfl (by exact (rfl : _ = [_, _, _, _, _, _, _, _, _, _, _]))) ?_
 refine RL.c fun25 (fun hs => fcheck (wrapF id vcid sdt es) a1 es.length c1 (Rd.rowh hs (by repeat first | exact At.head _ _ | apply At.tail)) rfl (by omega) (wrap_ok h0 h1 h2 hB)) ?_
 rintro _ _ ⟨rfl, e⟩; obtain rfl := e.symm
 refine RL.p T ?_
 refine RL.nil _ _ _ _ ?_
 refine hK3 _ _ _ ?_
 refine SW.seq_k fun K4 hK4 => ?_
 refine SW.region _ _ _ _ ?_
 refine RL.p T ?_
 refine RL.p T ?_
 refine RL.nil _ _ _ _ ?_
 refine hK4 _ _ _ ?_
 refine SW.cs (fun hc0 => ?_) (fun hc0 => ?_)
 ·skip
  first
   | (exfalso; first | omega | contradiction | (simp at *; done))
   | (
    refine SW.seq_k fun K5 hK5 => ?_
    refine SW.region _ _ _ _ ?_
    refine RL.s ?_
    first | refine NV.buildc T rfl (rfl : _ = some [_, _, _, _, _, _, _, _, _, _, _]) ?_ | refine NV.buildz T rfl (rfl : _ = some [_, _, _, _, _, _, _, _, _, _, _]) ?_ | refine NV.pure T (rfl : _ = some (Value.agg #[_, _, _, _, _, _, _, _, _, _, _])) ?_
    refine RL.p T ?_
    refine RL.s ?_
    refine NV.sN T rfl rfl rfl (by exact (rfl : _ = [_, _, _, _, _, _, _, _, _, _, _])) (by exact (rfl : _ = [_, _, _, _, _, _, _, _, _, _, _])) ?_
    refine RL.p T ?_
    refine RL.nil _ _ _ _ ?_
    refine hK5 _ _ _ ?_
    refine SW.sat (fun hs => ?_)
    refine SW.ret ?_
    refine retQ.rk (RVs.cN T rfl rfl rfl rfl (by exact (rfl : _ = [_, _, _, _, _, _, _, _, _, _, _])) (RVs.t RVs.nil)) ?_
    clear hK5 K5 hK4 K4 hK3 K3 hK2 K2 hK1 K1 hK0 K0
    have hor := chkF_or (wrapF id vcid sdt es)
    first
      | (rw [show wrapR id vcid sdt es = (wrapF id vcid sdt es) from if_pos (by omega), show chkF (wrapF id vcid sdt es) = 0 by omega]
         exact ⟨_, _, _, [_, _, _], rfl, rfl, (Rd.rowh (satl (G := [_, _, _]) hs) (by repeat first | exact At.head _ _ | apply At.tail)), rfl⟩)
      | (rw [show wrapR id vcid sdt es = zeroF 0 from if_neg (by omega)]
         first
           | exact ⟨none, 0, 0, [_, _, _], rfl, rfl, Rd.nilS, rfl⟩
           | (rw [show chkF (wrapF id vcid sdt es) = 2 by omega]; exact ⟨none, 0, 0, [_, _, _], rfl, rfl, Rd.nilS, rfl⟩))
    )
 ·skip
  first
   | (exfalso; first | omega | contradiction | (simp at *; done))
   | (
    refine SW.skip ?_
    refine hK2 _ _ _ ?_
    refine SW.seq_k fun K6 hK6 => ?_
    refine SW.region _ _ _ _ ?_
    refine RL.q (QV.vN T rfl rfl rfl rfl rfl (by exact (rfl : _ = [_, _, _, _, _, _, _, _, _, _, _]))) ?_
    refine RL.s ?_
    refine NV.sN T rfl rfl rfl (by exact (rfl : _ = [_, _, _, _, _, _, _, _, _, _, _])) (by exact (rfl : _ = [_, _, _, _, _, _, _, _, _, _, _])) ?_
    refine RL.p T ?_
    refine RL.nil _ _ _ _ ?_
    refine hK6 _ _ _ ?_
    refine SW.sat (fun hs => ?_)
    refine SW.ret ?_
    refine retQ.rk (RVs.cN T rfl rfl rfl rfl (by exact (rfl : _ = [_, _, _, _, _, _, _, _, _, _, _])) (RVs.t RVs.nil)) ?_
    clear hK6 K6 hK4 K4 hK3 K3 hK2 K2 hK1 K1 hK0 K0
    have hor := chkF_or (wrapF id vcid sdt es)
    first
      | (rw [show wrapR id vcid sdt es = (wrapF id vcid sdt es) from if_pos (by omega), show chkF (wrapF id vcid sdt es) = 0 by omega]
         exact ⟨_, _, _, [_, _, _], rfl, rfl, (Rd.rowh (satl (G := [_, _, _]) hs) (by repeat first | exact At.head _ _ | apply At.tail)), rfl⟩)
      | (rw [show wrapR id vcid sdt es = zeroF 0 from if_neg (by omega)]
         first
           | exact ⟨none, 0, 0, [_, _, _], rfl, rfl, Rd.nilS, rfl⟩
           | (rw [show chkF (wrapF id vcid sdt es) = 2 by omega]; exact ⟨none, 0, 0, [_, _, _], rfl, rfl, Rd.nilS, rfl⟩))
    )
theorem rwrap {w0 : World} {H : List Chunk} (id vcid sdt : Int) (h0 : 0 ≤ id ∧ id ≤ 4294967295) (h1 : 0 ≤ vcid ∧ vcid ≤ 255) (h2 : 0 ≤ sdt ∧ sdt ≤ 255) (sa : Option Addr) (n c : Nat) (es : List Int) (hR : Rd w0 H sa n c 1 (es.map (.int .u8))) (hn : n = es.length) (hm : n ≤ 140737488351232) (hB : Byte es) : SC Try.prog w0 21 #[.int .u32 id, .int .u8 vcid, .int .u8 sdt, .slice sa n c] H (fun v H' => FrV w0 H (wrapR id vcid sdt es) (chkF (wrapF id vcid sdt es)) v H') := by
 refine SC.enter Try.func21 rfl (Nat.le_of_ble_eq_true rfl) ?_
 refine SW.seq_k fun K0 hK0 => ?_
 refine SW.region _ _ _ _ ?_
 refine RL.s ?_
 refine NV.alloc T rfl rfl rfl (by exact (rfl : _ = [_, _, _, _, _, _, _, _, _, _, _])) ?_
 intro b8_0
 refine RL.p T ?_
 refine RL.nil _ _ _ _ ?_
 refine hK0 _ _ _ ?_
 refine SW.seq_k fun K1 hK1 => ?_
 refine SW.region _ _ _ _ ?_
 refine RL.p T ?_
 refine RL.p T ?_
 refine RL.p T ?_
 refine RL.bs T rfl rfl rfl (by exact (rfl : _ = some [])) (fun b14_1 => ?_)
 refine RL.p T ?_
 refine RL.apI (ki := .u8) (xs := []) (ys := es) T (fun a0_ c0_ => ?_) (hR := fun hs => (by repeat first | exact hR | apply Rd.cons | apply Rd.app))
 refine RL.s ?_
 refine NV.pure T (rfl : _ = some (Value.agg #[_, _, _, _, _, _, _, _, _, _, _])) ?_
 refine RL.s ?_
 refine NV.alloc T rfl rfl rfl (by exact (rfl : _ = [_, _, _, _, _, _, _, _, _, _, _])) ?_
 intro b10_2
 refine RL.s ?_
 refine NV.sN T rfl rfl rfl (by exact (rfl : _ = [_, _, _, _, _, _, _, _, _, _, _])) (by exact (rfl : _ = [_, _, _, _, _, _, _, _, _, _, _])) ?_
 refine RL.nil _ _ _ _ ?_
 refine hK1 _ _ _ ?_
 refine SW.seq_k fun K2 hK2 => ?_
 refine SW.seq_k fun K3 hK3 => ?_
 refine SW.region _ _ _ _ ?_
 refine RL.q (QV.vN T rfl rfl rfl rfl rfl (by exact (rfl : _ = [_, _, _, _, _, _, _, _, _, _, _]))) ?_
 refine RL.c fun28 (fun hs => rfcheck (wrapF id vcid sdt es) a0_ (0 + n) c0_ (Rd.rowh hs (by repeat first | exact At.head _ _ | apply At.tail)) (by show 0 + n = es.length; omega) (by omega) (wrap_ok h0 h1 h2 hB)) ?_
 rintro _ _ ⟨rfl, e⟩; obtain rfl := e.symm
 refine RL.p T ?_
 refine RL.nil _ _ _ _ ?_
 refine hK3 _ _ _ ?_
 refine SW.cs (fun hc0 => ?_) (fun hc0 => ?_)
 ·skip
  first
   | (exfalso; first | omega | contradiction | (simp at *; done))
   | (
    refine SW.seq_k fun K4 hK4 => ?_
    refine SW.region _ _ _ _ ?_
    refine RL.s ?_
    first | refine NV.buildc T rfl (rfl : _ = some [_, _, _, _, _, _, _, _, _, _, _]) ?_ | refine NV.buildz T rfl (rfl : _ = some [_, _, _, _, _, _, _, _, _, _, _]) ?_ | refine NV.pure T (rfl : _ = some (Value.agg #[_, _, _, _, _, _, _, _, _, _, _])) ?_
    refine RL.s ?_
    refine NV.sN T rfl rfl rfl (by exact (rfl : _ = [_, _, _, _, _, _, _, _, _, _, _])) (by exact (rfl : _ = [_, _, _, _, _, _, _, _, _, _, _])) ?_
    refine RL.p T ?_
    refine RL.nil _ _ _ _ ?_
    refine hK4 _ _ _ ?_
    refine SW.sat (fun hs => ?_)
    refine SW.ret ?_
    refine retQ.rk (RVs.cN T rfl rfl rfl rfl (by exact (rfl : _ = [_, _, _, _, _, _, _, _, _, _, _])) (RVs.t RVs.nil)) ?_
    clear hK4 K4 hK3 K3 hK2 K2 hK1 K1 hK0 K0
    have hor := chkF_or (wrapF id vcid sdt es)
    first
      | (rw [show wrapR id vcid sdt es = (wrapF id vcid sdt es) from if_pos (by omega), show chkF (wrapF id vcid sdt es) = 0 by omega]
         exact ⟨_, _, _, [_, _, _], rfl, (by show 0 + n = es.length; omega), (Rd.rowh (satl (G := [_, _, _]) hs) (by repeat first | exact At.head _ _ | apply At.tail)), rfl⟩)
      | (rw [show wrapR id vcid sdt es = zeroF 0 from if_neg (by omega)]
         first
           | exact ⟨none, 0, 0, [_, _, _], rfl, rfl, Rd.nilS, rfl⟩
           | (rw [show chkF (wrapF id vcid sdt es) = 2 by omega]; exact ⟨none, 0, 0, [_, _, _], rfl, rfl, Rd.nilS, rfl⟩))
    )
 ·skip
  first
   | (exfalso; first | omega | contradiction | (simp at *; done))
   | (
    refine SW.skip ?_
    refine hK2 _ _ _ ?_
    refine SW.seq_k fun K5 hK5 => ?_
    refine SW.region _ _ _ _ ?_
    refine RL.q (QV.vN T rfl rfl rfl rfl rfl (by exact (rfl : _ = [_, _, _, _, _, _, _, _, _, _, _]))) ?_
    refine RL.s ?_
    refine NV.sN T rfl rfl rfl (by exact (rfl : _ = [_, _, _, _, _, _, _, _, _, _, _])) (by exact (rfl : _ = [_, _, _, _, _, _, _, _, _, _, _])) ?_
    refine RL.p T ?_
    refine RL.nil _ _ _ _ ?_
    refine hK5 _ _ _ ?_
    refine SW.sat (fun hs => ?_)
    refine SW.ret ?_
    refine retQ.rk (RVs.cN T rfl rfl rfl rfl (by exact (rfl : _ = [_, _, _, _, _, _, _, _, _, _, _])) (RVs.t RVs.nil)) ?_
    clear hK5 K5 hK3 K3 hK2 K2 hK1 K1 hK0 K0
    have hor := chkF_or (wrapF id vcid sdt es)
    first
      | (rw [show wrapR id vcid sdt es = (wrapF id vcid sdt es) from if_pos (by omega), show chkF (wrapF id vcid sdt es) = 0 by omega]
         exact ⟨_, _, _, [_, _, _], rfl, (by show 0 + n = es.length; omega), (Rd.rowh (satl (G := [_, _, _]) hs) (by repeat first | exact At.head _ _ | apply At.tail)), rfl⟩)
      | (rw [show wrapR id vcid sdt es = zeroF 0 from if_neg (by omega)]
         first
           | exact ⟨none, 0, 0, [_, _, _], rfl, rfl, Rd.nilS, rfl⟩
           | (rw [show chkF (wrapF id vcid sdt es) = 2 by omega]; exact ⟨none, 0, 0, [_, _, _], rfl, rfl, Rd.nilS, rfl⟩))
    )
end Go.Proofs.Ytecgicpimgghaaa.M
