import Derived.Test.YtokihacnhefbfaaDoorProg
import Derived.Test.YtokihacnhefbfaaDoorFC1E
import Derived.Test.YtokihacnhefbfaaDoorP1b
import Derived.Test.YtokihacnhefbfaaDoorS16
set_option linter.unusedVariables false
set_option linter.unusedSimpArgs false
namespace Go.Proofs.YtokihacnhefbfaaDoor.M
open Go Go.Sep Go.Proofs
set_option maxRecDepth 10000
set_option maxHeartbeats 2000000
theorem ext39 : Ext1 Tryd.prog 39 := Ext1.mk Tryd.func39 (by kernel_rfl) (by kernel_rfl) (by kernel_rfl) (by kernel_rfl)
theorem ccheck0 {w0 : World} {H : List Chunk} (b : Nat) (a : Option Addr) (n c : Nat) : SC Tryd.prog w0 27 #[.pointer (some ⟨b, 0, none⟩)] (.var b 40 [.pointer none, .slice a n c] :: H) (fun v H' => H' = (.var b 40 [.pointer (some ⟨b, 0, none⟩), .slice a n c] :: H)) := by
 refine SC.enter Tryd.func27 rfl (Nat.le_of_ble_eq_true rfl) ?_
 refine SW.seq_k fun K0 hK0 => ?_
 refine SW.region _ _ _ _ ?_
 refine RL.p T ?_
 refine RL.p T ?_
 refine RL.p T ?_
 first | refine RL.lv1 T ?_ | refine RL.le T ?_
 refine RL.p T ?_
 refine RL.nil _ _ _ _ ?_
 refine hK0 _ _ _ ?_
 refine SW.cs (fun hc0 => ?_) (fun hc0 => ?_)
 ·skip
  first
   | (exfalso; first | contradiction | (simp at *; done))
   | (
    refine SW.region _ _ _ _ ?_
    refine RL.p T ?_
    refine RL.p T ?_
    refine RL.s ?_
    refine QV.nv _ _ _ (fun c hc => by cases hc) (QV.toUnsafe T rfl rfl rfl rfl rfl rfl (At.head _ _) rfl) ?_
    refine RL.s ?_
    refine NV.ext1 ?_ ext39
    refine RL.s ?_
    refine QV.nv _ _ _ (fun c hc => by cases hc) (QV.fromUnsafe T (m := 2) rfl rfl rfl rfl rfl (At.head _ _) rfl (by kernel_rfl)) ?_
    refine RL.p T ?_
    refine RL.p T ?_
    refine RL.s ?_
    first
      | refine NV.store_var1 T rfl rfl rfl rfl (by conv => lhs; whnf) rfl (by repeat first | exact At.head _ _ | assumption | exact At.put (by assumption) _ | apply At.tail | apply At.app) rfl rfl ?_
      | refine NV.store_var T rfl rfl rfl (by exact (rfl : _ = [_])) rfl rfl (by repeat first | exact At.head _ _ | assumption | exact At.put (by assumption) _ | apply At.tail | apply At.app) (Nat.le_of_ble_eq_true rfl) rfl ?_
      | refine NV.store_elem T rfl rfl rfl rfl (by conv => lhs; whnf) rfl (by repeat first | exact At.head _ _ | assumption | exact At.put (by assumption) _ | apply At.tail | apply At.app) (by omega) ?_
    refine RL.nil _ _ _ _ ?_
    try simp only [thenQ, blockQ, Nat.beq_refl, cond_true]
    refine retQ.nn _ ?_ (hH := fun w hw => hw)
    clear hK0 K0
    rfl
    )
 ·skip
  first
   | (exfalso; first | contradiction | (simp at *; done))
   | (
    refine SW.seq_k fun K1 hK1 => ?_
    refine SW.region _ _ _ _ ?_
    refine RL.p T ?_
    refine RL.p T ?_
    refine RL.p T ?_
    first | refine RL.lv1 T ?_ | refine RL.le T ?_
    refine RL.p T ?_
    refine RL.p T ?_
    refine RL.nil _ _ _ _ ?_
    refine hK1 _ _ _ ?_
    refine SW.cs (fun hc1 => ?_) (fun hc1 => ?_)
    ·skip
     exfalso; first | contradiction | (simp at *; done)
    ·skip
     first
      | (exfalso; first | contradiction | (simp at *; done))
      | (
       refine SW.skip ?_
       try simp only [thenQ, blockQ, Nat.beq_refl, cond_true]
       refine retQ.nn _ ?_ (hH := fun w hw => hw)
       clear hK1 K1 hK0 K0
       rfl
       )
    )
theorem ccheck1 {w0 : World} {H : List Chunk} (b : Nat) (a : Option Addr) (n c : Nat) : SC Tryd.prog w0 27 #[.pointer (some ⟨b, 0, none⟩)] (.var b 40 [.pointer (some ⟨b, 0, none⟩), .slice a n c] :: H) (fun v H' => H' = (.var b 40 [.pointer (some ⟨b, 0, none⟩), .slice a n c] :: H)) := by
 refine SC.enter Tryd.func27 rfl (Nat.le_of_ble_eq_true rfl) ?_
 refine SW.seq_k fun K0 hK0 => ?_
 refine SW.region _ _ _ _ ?_
 refine RL.p T ?_
 refine RL.p T ?_
 refine RL.p T ?_
 first | refine RL.lv1 T ?_ | refine RL.le T ?_
 refine RL.p T ?_
 refine RL.nil _ _ _ _ ?_
 refine hK0 _ _ _ ?_
 refine SW.cs (fun hc0 => ?_) (fun hc0 => ?_)
 ·skip
  exfalso; first | contradiction | (simp at *; done)
 ·skip
  first
   | (exfalso; first | contradiction | (simp at *; done))
   | (
    refine SW.seq_k fun K1 hK1 => ?_
    refine SW.region _ _ _ _ ?_
    refine RL.p T ?_
    refine RL.p T ?_
    refine RL.p T ?_
    first | refine RL.lv1 T ?_ | refine RL.le T ?_
    refine RL.p T ?_
    refine RL.s ?_
    refine QV.nv _ _ _ (fun c hc => by cases hc) (QV.neqPtr T rfl rfl rfl rfl rfl) ?_
    refine RL.nil _ _ _ _ ?_
    refine hK1 _ _ _ ?_
    refine SW.cs (fun hc1 => ?_) (fun hc1 => ?_)
    ·skip
     exfalso; first | contradiction | (simp at *; done)
    ·skip
     first
      | (exfalso; first | contradiction | (simp at *; done))
      | (
       refine SW.skip ?_
       try simp only [thenQ, blockQ, Nat.beq_refl, cond_true]
       refine retQ.nn _ ?_ (hH := fun w hw => hw)
       clear hK1 K1 hK0 K0
       rfl
       )
    )
theorem wbyte0 {w0 : World} {H : List Chunk} (b : Nat) (a : Option Addr) (n c : Nat) (xs : List Int) (z : Int) (hm : n ≤ 140737488351232) : SC Tryd.prog w0 17 #[.pointer (some ⟨b, 0, none⟩), .int .u8 z] (.var b 40 [.pointer none, .slice a n c] :: .row a n c 5 1 (xs.map (.int .u8)) :: H) (fun v H' => ∃ a' c', H' = (.var b 40 [.pointer (some ⟨b, 0, none⟩), .slice a' (n + 1) c'] :: .row a' (n + 1) c' 5 1 ((xs ++ [z]).map (.int .u8)) :: H)) := by
 refine SC.enter Tryd.func17 rfl (Nat.le_of_ble_eq_true rfl) ?_
 refine SW.seq_k fun K0 hK0 => ?_
 refine SW.region _ _ _ _ ?_
 refine RL.p T ?_
 refine RL.nil _ _ _ _ ?_
 refine hK0 _ _ _ ?_
 refine SW.seq_k fun K1 hK1 => ?_
 refine SW.region _ _ _ _ ?_
 refine RL.p T ?_
 refine RL.c fun27 (fun hs => ccheck0 b a n c) ?_
 rintro _ _ e; obtain rfl := e.symm
 refine RL.nil _ _ _ _ ?_
 refine hK1 _ _ _ ?_
 refine SW.seq_k fun K2 hK2 => ?_
 refine SW.region _ _ _ _ ?_
 refine RL.p T ?_
 refine RL.p T ?_
 refine RL.p T ?_
 refine RL.p T ?_
 first | refine RL.lv1 T ?_ | refine RL.le T ?_
 refine RL.p T ?_
 refine RL.bs T rfl rfl rfl (by exact (rfl : _ = some [_])) (fun b13_0 => ?_)
 first | refine RL.apI1 (ki := .u8) T (fun a0_ c0_ => ?_) | refine RL.apI (ki := .u8) T (fun a0_ c0_ => ?_) | refine RL.apI (ki := .u8) (xs := []) T (fun a0_ c0_ => ?_)
 refine RL.p T ?_
 refine RL.p T ?_
 refine RL.s ?_
 first
   | refine NV.store_var1 T rfl rfl rfl rfl (by conv => lhs; whnf) rfl (by repeat first | exact At.head _ _ | assumption | exact At.put (by assumption) _ | apply At.tail | apply At.app) rfl rfl ?_
   | refine NV.store_var T rfl rfl rfl (by exact (rfl : _ = [_])) rfl rfl (by repeat first | exact At.head _ _ | assumption | exact At.put (by assumption) _ | apply At.tail | apply At.app) (Nat.le_of_ble_eq_true rfl) rfl ?_
   | refine NV.store_elem T rfl rfl rfl rfl (by conv => lhs; whnf) rfl (by repeat first | exact At.head _ _ | assumption | exact At.put (by assumption) _ | apply At.tail | apply At.app) (by omega) ?_
 refine RL.nil _ _ _ _ ?_
 refine hK2 _ _ _ ?_
 refine SW.seq_k fun K3 hK3 => ?_
 refine SW.region _ _ _ _ ?_
 refine RL.p T ?_
 refine RL.nil _ _ _ _ ?_
 refine hK3 _ _ _ ?_
 refine SW.ret ?_
 refine retQ.rr _ ?_ (hH := fun w hw => hw)
 clear hK3 K3 hK2 K2 hK1 K1 hK0 K0
 exact ⟨a0_, c0_, rfl⟩
theorem wbyte1 {w0 : World} {H : List Chunk} (b : Nat) (a : Option Addr) (n c : Nat) (xs : List Int) (z : Int) (hm : n ≤ 140737488351232) : SC Tryd.prog w0 17 #[.pointer (some ⟨b, 0, none⟩), .int .u8 z] (.var b 40 [.pointer (some ⟨b, 0, none⟩), .slice a n c] :: .row a n c 5 1 (xs.map (.int .u8)) :: H) (fun v H' => ∃ a' c', H' = (.var b 40 [.pointer (some ⟨b, 0, none⟩), .slice a' (n + 1) c'] :: .row a' (n + 1) c' 5 1 ((xs ++ [z]).map (.int .u8)) :: H)) := by
 refine SC.enter Tryd.func17 rfl (Nat.le_of_ble_eq_true rfl) ?_
 refine SW.seq_k fun K0 hK0 => ?_
 refine SW.region _ _ _ _ ?_
 refine RL.p T ?_
 refine RL.nil _ _ _ _ ?_
 refine hK0 _ _ _ ?_
 refine SW.seq_k fun K1 hK1 => ?_
 refine SW.region _ _ _ _ ?_
 refine RL.p T ?_
 refine RL.c fun27 (fun hs => ccheck1 b a n c) ?_
 rintro _ _ e; obtain rfl := e.symm
 refine RL.nil _ _ _ _ ?_
 refine hK1 _ _ _ ?_
 refine SW.seq_k fun K2 hK2 => ?_
 refine SW.region _ _ _ _ ?_
 refine RL.p T ?_
 refine RL.p T ?_
 refine RL.p T ?_
 refine RL.p T ?_
 first | refine RL.lv1 T ?_ | refine RL.le T ?_
 refine RL.p T ?_
 refine RL.bs T rfl rfl rfl (by exact (rfl : _ = some [_])) (fun b13_0 => ?_)
 first | refine RL.apI1 (ki := .u8) T (fun a0_ c0_ => ?_) | refine RL.apI (ki := .u8) T (fun a0_ c0_ => ?_) | refine RL.apI (ki := .u8) (xs := []) T (fun a0_ c0_ => ?_)
 refine RL.p T ?_
 refine RL.p T ?_
 refine RL.s ?_
 first
   | refine NV.store_var1 T rfl rfl rfl rfl (by conv => lhs; whnf) rfl (by repeat first | exact At.head _ _ | assumption | exact At.put (by assumption) _ | apply At.tail | apply At.app) rfl rfl ?_
   | refine NV.store_var T rfl rfl rfl (by exact (rfl : _ = [_])) rfl rfl (by repeat first | exact At.head _ _ | assumption | exact At.put (by assumption) _ | apply At.tail | apply At.app) (Nat.le_of_ble_eq_true rfl) rfl ?_
   | refine NV.store_elem T rfl rfl rfl rfl (by conv => lhs; whnf) rfl (by repeat first | exact At.head _ _ | assumption | exact At.put (by assumption) _ | apply At.tail | apply At.app) (by omega) ?_
 refine RL.nil _ _ _ _ ?_
 refine hK2 _ _ _ ?_
 refine SW.seq_k fun K3 hK3 => ?_
 refine SW.region _ _ _ _ ?_
 refine RL.p T ?_
 refine RL.nil _ _ _ _ ?_
 refine hK3 _ _ _ ?_
 refine SW.ret ?_
 refine retQ.rr _ ?_ (hH := fun w hw => hw)
 clear hK3 K3 hK2 K2 hK1 K1 hK0 K0
 exact ⟨a0_, c0_, rfl⟩
theorem wbyte {w0 : World} {H : List Chunk} (b : Nat) (a : Option Addr) (n c : Nat) (xs : List Int) (z : Int) (hm : n ≤ 140737488351232) (p : Option Addr) (hp : p = none ∨ p = (some ⟨b, 0, none⟩)) : SC Tryd.prog w0 17 #[.pointer (some ⟨b, 0, none⟩), .int .u8 z] (.var b 40 [.pointer p, .slice a n c] :: .row a n c 5 1 (xs.map (.int .u8)) :: H) (fun v H' => ∃ a' c', H' = (.var b 40 [.pointer (some ⟨b, 0, none⟩), .slice a' (n + 1) c'] :: .row a' (n + 1) c' 5 1 ((xs ++ [z]).map (.int .u8)) :: H)) := by
  rcases hp with rfl | rfl
  · exact wbyte0 b a n c xs z hm
  · exact wbyte1 b a n c xs z hm
theorem text1 {w0 : World} {H : List Chunk} (b : Nat) (a : Option Addr) (n c : Nat) (xs : List Int) (z : Int) (z0 : 0 ≤ z) (z1 : z ≤ 1) (hm : n ≤ 140737488351232) (p : Option Addr) (hp : p = none ∨ p = (some ⟨b, 0, none⟩)) : SC Tryd.prog w0 16 #[.int .u8 z, .pointer (some ⟨b, 0, none⟩)] (.var b 40 [.pointer p, .slice a n c] :: .row a n c 5 1 (xs.map (.int .u8)) :: H) (fun v H' => ∃ a' c', H' = (.var b 40 [.pointer (some ⟨b, 0, none⟩), .slice a' (n + 1) c'] :: .row a' (n + 1) c' 5 1 ((xs ++ [48 + z]).map (.int .u8)) :: H)) := by
 refine SC.enter Tryd.func16 rfl (Nat.le_of_ble_eq_true rfl) ?_
 refine SW.region _ _ _ _ ?_
 refine RL.p T ?_
 first | refine RL.arK ?_ | refine RL.p T ?_
 refine RL.c fun17 (fun hs => wbyte b a n c xs (48 + z) hm p hp) ?_
 rintro _ _ ⟨a1, c1, e⟩; obtain rfl := e.symm
 refine RL.nil _ _ _ _ ?_
 try simp only [thenQ, blockQ, Nat.beq_refl, cond_true]
 refine retQ.nn _ ?_ (hH := fun w hw => hw)
 exact ⟨a1, c1, rfl⟩
theorem eachText {w0 : World} {H : List Chunk} (b : Nat) (sa : Option Addr) (n c : Nat) (es : List Int) (hR : Rd w0 H sa n c 1 (es.map (.int .u8))) (hn : n = es.length) (hm : n ≤ 140737488351232) (hb : Bit es) (h5 : n ≤ 65536) : SC Tryd.prog w0 15 #[.slice sa n c, .func (.func 16) #[] #[.pointer (some ⟨b, 0, none⟩)]] (.var b 40 [.pointer none, .slice none 0 0] :: .row none 0 0 5 1 (([] : List Int).map (.int .u8)) :: H) (fun v H' => ∃ p a' c', (n = 0 → a' = none) ∧ H' = (.var b 40 [.pointer p, .slice a' n c'] :: .row a' n c' 5 1 ((es.map fun z => 48 + z).map (.int .u8)) :: H)) := by
 refine SC.enter Tryd.func15 rfl (Nat.le_of_ble_eq_true rfl) ?_
 refine SW.seq_k fun K0 hK0 => ?_
 refine SW.region _ _ _ _ ?_
 refine RL.p T ?_
 refine RL.p T ?_
 refine RL.p T ?_
 refine RL.nil _ _ _ _ ?_
 refine hK0 _ _ _ ?_
 refine SW.block ?_
 refine SW.loopM (fun frB mm fr ds HH => ∃ (k : Nat) (p a : Option Addr) (cc : Nat), mm = n - k ∧ (k ≤ n ∧ ((p = none ∨ p = (some ⟨b, 0, none⟩)) ∧ (k = 0 → a = none))) ∧ FrIs [5, 8, 9, 10, 11, 12, 13, 14, 15] frB fr [(8, .int .i64 k)] ∧ ds = [] ∧ HH = (.var b 40 [.pointer p, .slice a k cc] :: .row a k cc 5 1 (((es.take k).map fun z => 48 + z).map (.int .u8)) :: H)) (n := n - 0) ?_ ?_
 ·exact ⟨0, none, none, 0, rfl, ⟨Nat.zero_le _, ⟨.inl rfl, fun _ => rfl⟩⟩, (.cons rfl (.nil (by repeat first | exact Mx.refl | exact Mx.mix | refine Mx.put rfl ?_ | refine Mx.upd rfl ?_ | refine Mx.updl rfl ?_ | refine Mx.fin rfl ?_ | refine Mx.inner rfl ?_ | refine Mx.none ?_))), rfl, rfl⟩
 ·rintro mm fr ds HH ⟨k, p, a, cc, rfl, ⟨hk, ⟨hp, ha⟩⟩, hFr, rfl, eHH⟩
  obtain rfl := eHH.symm
  obtain ⟨frU, rfl⟩ := hFr.eq
  clear hFr
  have hz := hb k
  refine SW.seq_k fun K1 hK1 => ?_
  refine SW.region _ _ _ _ ?_
  refine RL.p T ?_
  refine RL.nil _ _ _ _ ?_
  refine hK1 _ _ _ ?_
  refine SW.seq_k fun K2 hK2 => ?_
  refine SW.cs (fun hc0 => ?_) (fun hc0 => ?_)
  ·skip
   refine SW.skip ?_
   refine hK2 _ _ _ ?_
   refine SW.seq_k fun K3 hK3 => ?_
   refine SW.block ?_
   refine SW.seq_k fun K4 hK4 => ?_
   refine SW.region _ _ _ _ ?_
   refine RL.ix T ?_ (hR := fun hs => hR.cons.cons)
   refine RL.le T ?_ (hR := fun hs => hR.cons.cons)
   refine RL.p T ?_
   refine RL.nil _ _ _ _ ?_
   refine hK4 _ _ _ ?_
   refine SW.region _ _ _ _ ?_
   refine RL.p T ?_
   refine RL.p T ?_
   refine RL.c fun16 (fun hs => text1 b a k cc _ (es.getD k 0) (by omega) (by omega) (by omega) p hp) ?_
   rintro _ _ ⟨a1, c1, e⟩; obtain rfl := e.symm
   refine RL.nil _ _ _ _ ?_
   refine hK3 _ _ _ ?_
   refine SW.region _ _ _ _ ?_
   first | refine RL.ar ?_ | refine RL.p T ?_
   refine RL.p T ?_
   refine RL.nil _ _ _ _ ?_
   exact ⟨n - (k + 1), (by omega), k + 1, _, a1, c1, (by rfl), ⟨by omega, ⟨.inr rfl, fun h => absurd h (by omega)⟩⟩, (.cons rfl (.nil (by repeat first | exact Mx.refl | exact Mx.mix | refine Mx.put rfl ?_ | refine Mx.upd rfl ?_ | refine Mx.updl rfl ?_ | refine Mx.fin rfl ?_ | refine Mx.inner rfl ?_ | refine Mx.none ?_))), rfl, (by rw [take_succ (by omega)]; simp only [List.map_append]; rfl)⟩
  ·skip
   refine SW.exit ?_
   try simp only [thenQ, blockQ, Nat.beq_refl, cond_true]
   refine retQ.nn _ ?_ (hH := fun w hw => hw)
   clear hK2 K2 hK1 K1 hK0 K0
   obtain rfl : k = n := by omega
   refine ⟨p, a, cc, ha, ?_⟩
   rw [List.take_of_length_le (by omega)]
theorem bstr1 {w0 : World} {H : List Chunk} (b : Nat) (q : Addr) (n c : Nat) (xs : List Int) (p : Option Addr) (hn : 0 < n) (hcn : n ≤ c) (hb : Byte xs) : SC Tryd.prog w0 18 #[.pointer (some ⟨b, 0, none⟩)] (.row (some q) n c 5 1 (xs.map (.int .u8)) :: .var b 40 [.pointer p, .slice (some q) n c] :: H) (fun v H' => v = .string (strI xs) ∧ H' = H) := by
 refine SC.enter Tryd.func18 rfl (Nat.le_of_ble_eq_true rfl) ?_
 refine SW.seq_k fun K0 hK0 => ?_
 refine SW.region _ _ _ _ ?_
 refine RL.p T ?_
 refine RL.nil _ _ _ _ ?_
 refine hK0 _ _ _ ?_
 refine SW.seq_k fun K1 hK1 => ?_
 refine SW.draw [(3, 0), (4, 1), (5, 2), (6, 3), (7, 4), (8, 5), (9, 6), (10, 7), (11, 8), (12, 9), (13, 10), (2, 11)] [[], [0], [1, 0], [2, 1, 0], [3, 2, 1, 0], [], [5], [6, 5], [7, 6, 5], [8, 7, 6, 5], [4, 3, 2, 1, 0, 9, 8, 7, 6, 5], [10, 4, 3, 2, 1, 0, 9, 8, 7, 6, 5]] mixed (by kernel_rfl) (by kernel_rfl) ?_
 refine RD.q rfl rfl (Gd.none rfl) (pev_sound T (by conv => lhs; whnf; arg 1; whnf)) ?_
 refine RD.q rfl rfl (Gd.none rfl) (pev_sound T (by conv => lhs; whnf; arg 1; whnf)) ?_
 refine RD.q rfl rfl (Gd.none rfl) (pev_sound T (by conv => lhs; whnf; arg 1; whnf)) ?_
 refine RD.q rfl rfl (Gd.none rfl) (by first | exact QV.load_var1 T rfl rfl rfl rfl (by repeat first | exact At.head _ _ | assumption | exact At.put (by assumption) _ | apply At.tail | apply At.app) rfl | exact QV.load_varN T rfl rfl rfl rfl rfl (by repeat first | exact At.head _ _ | assumption | exact At.put (by assumption) _ | apply At.tail | apply At.app) (by exact (rfl : _ = [_])) rfl | exact QV.load_elem T rfl rfl rfl rfl (by assumption) (by first | exact map_get _ _ (by omega) | assumption)) ?_
 refine RD.q rfl rfl (Gd.none rfl) (pev_sound T (by conv => lhs; whnf; arg 1; whnf)) ?_
 refine RD.q rfl rfl (Gd.none rfl) (pev_sound T (by conv => lhs; whnf; arg 1; whnf)) ?_
 refine RD.q rfl rfl (Gd.none rfl) (pev_sound T (by conv => lhs; whnf; arg 1; whnf)) ?_
 refine RD.q rfl rfl (Gd.none rfl) (by first | exact QV.load_var1 T rfl rfl rfl rfl (by repeat first | exact At.head _ _ | assumption | exact At.put (by assumption) _ | apply At.tail | apply At.app) rfl | exact QV.load_varN T rfl rfl rfl rfl rfl (by repeat first | exact At.head _ _ | assumption | exact At.put (by assumption) _ | apply At.tail | apply At.app) (by exact (rfl : _ = [_])) rfl | exact QV.load_elem T rfl rfl rfl rfl (by assumption) (by first | exact map_get _ _ (by omega) | assumption)) ?_
 refine RD.q rfl rfl (Gd.none rfl) (pev_sound T (by conv => lhs; whnf; arg 1; whnf)) ?_
 refine RD.nv rfl rfl rfl (Gd.none rfl) ?_
 refine NV.usd ?_ rfl rfl rfl (by omega)
 refine ⟨(Stab.cons rfl (Gd.none rfl) (pev_sound T rfl) (Stab.cons rfl (Gd.none rfl) (by first | exact QV.load_var1 T rfl rfl rfl rfl (by repeat first | exact At.head _ _ | assumption | exact At.put (by assumption) _ | apply At.tail | apply At.app) rfl | exact QV.load_varN T rfl rfl rfl rfl rfl (by repeat first | exact At.head _ _ | assumption | exact At.put (by assumption) _ | apply At.tail | apply At.app) rfl rfl | exact QV.load_elem T rfl rfl rfl rfl (by assumption) (by first | exact map_get _ _ (by omega) | assumption)) (Stab.cons rfl (Gd.none rfl) (pev_sound T rfl) (Stab.cons rfl (Gd.none rfl) (pev_sound T rfl) (Stab.cons rfl (Gd.none rfl) (pev_sound T rfl) Stab.nil))))), ?_⟩
 refine RD.nv rfl rfl rfl (Gd.none rfl) ?_
 refine NV.us T ?_ rfl rfl rfl rfl rfl (by kernel_rfl) hn hb
 refine ⟨Stab.nil, ?_⟩
 refine RD.q rfl rfl (Gd.none rfl) (pev_sound T (by conv => lhs; whnf; arg 1; whnf)) ?_
 refine RD.k rfl rfl ?_
 refine hK1 _ _ _ ?_
 refine SW.ret ?_
 refine retQ.rr (H) ?_
 clear hK1 K1 hK0 K0
 exact ⟨rfl, rfl⟩
theorem bstr0 {w0 : World} {H : List Chunk} (b : Nat) (c : Nat) (p : Option Addr) : SC Tryd.prog w0 18 #[.pointer (some ⟨b, 0, none⟩)] (.var b 40 [.pointer p, .slice none 0 c] :: H) (fun v H' => v = .string (strI []) ∧ H' = H) := by
 refine SC.enter Tryd.func18 rfl (Nat.le_of_ble_eq_true rfl) ?_
 refine SW.seq_k fun K0 hK0 => ?_
 refine SW.region _ _ _ _ ?_
 refine RL.p T ?_
 refine RL.nil _ _ _ _ ?_
 refine hK0 _ _ _ ?_
 refine SW.seq_k fun K1 hK1 => ?_
 refine SW.draw [(3, 0), (4, 1), (5, 2), (6, 3), (7, 4), (8, 5), (9, 6), (10, 7), (11, 8), (12, 9), (13, 10), (2, 11)] [[], [0], [1, 0], [2, 1, 0], [3, 2, 1, 0], [], [5], [6, 5], [7, 6, 5], [8, 7, 6, 5], [4, 3, 2, 1, 0, 9, 8, 7, 6, 5], [10, 4, 3, 2, 1, 0, 9, 8, 7, 6, 5]] mixed (by kernel_rfl) (by kernel_rfl) ?_
 refine RD.q rfl rfl (Gd.none rfl) (pev_sound T (by conv => lhs; whnf; arg 1; whnf)) ?_
 refine RD.q rfl rfl (Gd.none rfl) (pev_sound T (by conv => lhs; whnf; arg 1; whnf)) ?_
 refine RD.q rfl rfl (Gd.none rfl) (pev_sound T (by conv => lhs; whnf; arg 1; whnf)) ?_
 refine RD.q rfl rfl (Gd.none rfl) (by first | exact QV.load_var1 T rfl rfl rfl rfl (by repeat first | exact At.head _ _ | assumption | exact At.put (by assumption) _ | apply At.tail | apply At.app) rfl | exact QV.load_varN T rfl rfl rfl rfl rfl (by repeat first | exact At.head _ _ | assumption | exact At.put (by assumption) _ | apply At.tail | apply At.app) (by exact (rfl : _ = [_])) rfl | exact QV.load_elem T rfl rfl rfl rfl (by assumption) (by first | exact map_get _ _ (by omega) | assumption)) ?_
 refine RD.q rfl rfl (Gd.none rfl) (pev_sound T (by conv => lhs; whnf; arg 1; whnf)) ?_
 refine RD.q rfl rfl (Gd.none rfl) (pev_sound T (by conv => lhs; whnf; arg 1; whnf)) ?_
 refine RD.q rfl rfl (Gd.none rfl) (pev_sound T (by conv => lhs; whnf; arg 1; whnf)) ?_
 refine RD.q rfl rfl (Gd.none rfl) (by first | exact QV.load_var1 T rfl rfl rfl rfl (by repeat first | exact At.head _ _ | assumption | exact At.put (by assumption) _ | apply At.tail | apply At.app) rfl | exact QV.load_varN T rfl rfl rfl rfl rfl (by repeat first | exact At.head _ _ | assumption | exact At.put (by assumption) _ | apply At.tail | apply At.app) (by exact (rfl : _ = [_])) rfl | exact QV.load_elem T rfl rfl rfl rfl (by assumption) (by first | exact map_get _ _ (by omega) | assumption)) ?_
 refine RD.q rfl rfl (Gd.none rfl) (pev_sound T (by conv => lhs; whnf; arg 1; whnf)) ?_
 refine RD.nv rfl rfl rfl (Gd.none rfl) ?_
 refine NV.usd0 ?_ rfl rfl rfl
 refine ⟨(Stab.cons rfl (Gd.none rfl) (pev_sound T rfl) (Stab.cons rfl (Gd.none rfl) (by first | exact QV.load_var1 T rfl rfl rfl rfl (by repeat first | exact At.head _ _ | assumption | exact At.put (by assumption) _ | apply At.tail | apply At.app) rfl | exact QV.load_varN T rfl rfl rfl rfl rfl (by repeat first | exact At.head _ _ | assumption | exact At.put (by assumption) _ | apply At.tail | apply At.app) rfl rfl | exact QV.load_elem T rfl rfl rfl rfl (by assumption) (by first | exact map_get _ _ (by omega) | assumption)) (Stab.cons rfl (Gd.none rfl) (pev_sound T rfl) (Stab.cons rfl (Gd.none rfl) (pev_sound T rfl) (Stab.cons rfl (Gd.none rfl) (pev_sound T rfl) Stab.nil))))), ?_⟩
 refine RD.nv rfl rfl rfl (Gd.none rfl) ?_
 refine NV.us0 ?_ rfl rfl rfl rfl
 refine ⟨Stab.nil, ?_⟩
 refine RD.q rfl rfl (Gd.none rfl) (pev_sound T (by conv => lhs; whnf; arg 1; whnf)) ?_
 refine RD.k rfl rfl ?_
 refine hK1 _ _ _ ?_
 refine SW.ret ?_
 refine retQ.rr (H) ?_
 clear hK1 K1 hK0 K0
 exact ⟨rfl, rfl⟩
end Go.Proofs.YtokihacnhefbfaaDoor.M
