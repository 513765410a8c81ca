import Derived.Test.YtokihacnhefbfaaProg
import Derived.Test.YtokihacnhefbfaaFE1
import Derived.Test.YtokihacnhefbfaaS16
set_option linter.unusedVariables false
set_option linter.unusedSimpArgs false
namespace Go.Proofs.Ytokihacnhefbfaa.M
open Go Go.Sep Go.Proofs
set_option maxRecDepth 10000
set_option maxHeartbeats 2000000
theorem bstr {w0 : World} {H : List Chunk} (b : Nat) (p a : Option Addr) (n c : Nat) (xs : List Int) (hn : n = xs.length) (ha : n = 0 → a = none) (hb : Byte xs) : SC Try.prog w0 34 #[.pointer (some ⟨b, 0, none⟩)] (.row a n c 5 1 (xs.map (.int .u8)) :: .var b 59 [.pointer p, .slice a n c] :: H) (fun v H' => v = .string (strI xs) ∧ H' = H) := by
  refine SC.sat fun hs => ?_
  have hR := Rd.rowh hs (At.head _ _)
  rcases Nat.eq_zero_or_pos n with h | h
  · obtain rfl := ha h
    subst h
    obtain rfl : xs = [] := List.eq_nil_of_length_eq_zero hn.symm
    exact SC.drop (bstr0 b c p)
  · cases a with
    | none => cases hR.some h
    | some q => exact bstr1 b q n c xs p h hR.cap hb
theorem text_ok {w0 : World} {H : List Chunk} (sa : Option Addr) (n c : Nat) (es : List Int) (hR : Rd w0 H sa n c 1 (es.map (.int .u8))) (hn : n = es.length) (hm : n ≤ 140737488351232) (hc : chk es = 0) (hb : Bit es) : SC Try.prog w0 21 #[.slice sa n c] H (fun v H' => v = .tuple #[.string (strI (es.map fun z => 48 + z)), .int .i64 0] ∧ H' = H) := by
 refine SC.enter Try.func21 rfl (Nat.le_of_ble_eq_true rfl) ?_
 refine SW.seq_k fun K0 hK0 => ?_
 refine SW.region _ _ _ _ ?_
 refine RL.p T ?_
 refine RL.p T ?_
 refine RL.nil _ _ _ _ ?_
 refine hK0 _ _ _ ?_
 refine SW.seq_k fun K1 hK1 => ?_
 refine SW.seq_k fun K2 hK2 => ?_
 refine SW.region _ _ _ _ ?_
 refine RL.p T ?_
 refine RL.c fun14 (fun hs => (check sa n c es hR hn hm).mono (fun v H' h => by rw [hc] at h; exact h)) ?_
 rintro _ _ ⟨rfl, e⟩; obtain rfl := e.symm
 refine RL.p T ?_
 refine RL.nil _ _ _ _ ?_
 refine hK2 _ _ _ ?_
 refine SW.seq_k fun K3 hK3 => ?_
 refine SW.region _ _ _ _ ?_
 refine RL.p T ?_
 refine RL.p T ?_
 refine RL.nil _ _ _ _ ?_
 refine hK3 _ _ _ ?_
 refine SW.cs (fun hc0 => ?_) (fun hc0 => ?_)
 ·skip
  first
   | (exfalso; first | contradiction | omega)
   | (
    refine SW.seq_k fun K4 hK4 => ?_
    refine SW.region _ _ _ _ ?_
    refine RL.p T ?_
    refine RL.p T ?_
    refine RL.p T ?_
    refine RL.nil _ _ _ _ ?_
    refine hK4 _ _ _ ?_
    refine SW.ret ?_
    refine retQ.rr (H) ?_
    clear hK4 K4 hK3 K3 hK2 K2 hK1 K1 hK0 K0
    exact ⟨rfl, rfl⟩
    )
 ·skip
  first
   | (exfalso; first | contradiction | omega)
   | (
    refine SW.skip ?_
    refine hK1 _ _ _ ?_
    refine SW.seq_k fun K5 hK5 => ?_
    refine SW.region _ _ _ _ ?_
    refine RL.s ?_
    refine NV.alloc T rfl rfl rfl (by exact (rfl : _ = [_, _])) ?_
    intro b5_0
    refine RL.nil _ _ _ _ ?_
    refine hK5 _ _ _ ?_
    refine SW.seq_k fun K6 hK6 => ?_
    refine SW.region _ _ _ _ ?_
    refine RL.p T ?_
    refine RL.p T ?_
    refine RL.c fun25 (fun hs => (SC.swap (eachText _ sa n c es hR hn hm hb (by have := (chk_zero.1 hc).1; omega))).nilrow 5 1) ?_
    rintro _ _ ⟨p, a1, c1, ha1, e⟩; obtain rfl := e.symm
    refine RL.nil _ _ _ _ ?_
    refine hK6 _ _ _ ?_
    refine SW.seq_k fun K7 hK7 => ?_
    refine SW.region _ _ _ _ ?_
    refine RL.c fun34 (fun hs => SC.swap (bstr _ p a1 n c1 (es.map fun z => 48 + z) (by simp [hn]) ha1 (byte48 hb))) ?_
    rintro _ _ ⟨rfl, e⟩; obtain rfl := e.symm
    refine RL.p T ?_
    refine RL.p T ?_
    refine RL.nil _ _ _ _ ?_
    refine hK7 _ _ _ ?_
    refine SW.ret ?_
    refine retQ.rr (H) ?_
    clear hK7 K7 hK6 K6 hK5 K5 hK3 K3 hK2 K2 hK1 K1 hK0 K0
    exact ⟨rfl, rfl⟩
    )
theorem text_bad_ {w0 : World} {H : List Chunk} : True := trivial
theorem rpack_bad {w0 : World} {H : List Chunk} (sa : Option Addr) (n c : Nat) (es : List Int) (hR : Rd w0 H sa n c 1 (es.map (.int .u8))) (hn : n = es.length) (hm : n ≤ 140737488351232) (hb : Byte es) (h : chk es ≠ 0 ∨ es.length % 8 ≠ 0) : SC Try.prog w0 18 #[.slice sa n c] H (fun v H' => v = .tuple #[.slice none 0 0, .int .i64 (packV es).2] ∧ H' = H) := by
 refine SC.enter Try.func18 rfl (Nat.le_of_ble_eq_true rfl) ?_
 refine SW.seq_k fun K0 hK0 => ?_
 refine SW.region _ _ _ _ ?_
 refine RL.p T ?_
 refine RL.p T ?_
 refine RL.nil _ _ _ _ ?_
 refine hK0 _ _ _ ?_
 refine SW.seq_k fun K1 hK1 => ?_
 refine SW.seq_k fun K2 hK2 => ?_
 refine SW.region _ _ _ _ ?_
 refine RL.p T ?_
 refine RL.c fun15 (fun hs => rcheck sa n c es hR hn hm) ?_
 rintro _ _ ⟨rfl, e⟩; obtain rfl := e.symm
 refine RL.p T ?_
 refine RL.nil _ _ _ _ ?_
 refine hK2 _ _ _ ?_
 refine SW.seq_k fun K3 hK3 => ?_
 refine SW.region _ _ _ _ ?_
 refine RL.p T ?_
 refine RL.p T ?_
 refine RL.nil _ _ _ _ ?_
 refine hK3 _ _ _ ?_
 refine SW.cs (fun hc0 => ?_) (fun hc0 => ?_)
 ·skip
  first
   | (exfalso; first | contradiction | omega)
   | (
    refine SW.seq_k fun K4 hK4 => ?_
    refine SW.region _ _ _ _ ?_
    refine RL.p T ?_
    refine RL.p T ?_
    refine RL.p T ?_
    refine RL.nil _ _ _ _ ?_
    refine hK4 _ _ _ ?_
    refine SW.ret ?_
    refine retQ.rr (H) ?_
    clear hK4 K4 hK3 K3 hK2 K2 hK1 K1 hK0 K0
    refine ⟨?_, rfl⟩
    unfold packV
    first
      | (rw [if_neg (by omega), show chk es = 2 from (chk_or es).resolve_left (by omega)]; rfl)
      | (rw [if_pos (by omega), if_neg (by omega)]; rfl)
    )
 ·skip
  first
   | (exfalso; first | contradiction | omega)
   | (
    refine SW.skip ?_
    refine hK1 _ _ _ ?_
    refine SW.seq_k fun K5 hK5 => ?_
    refine SW.seq_k fun K6 hK6 => ?_
    refine SW.region _ _ _ _ ?_
    refine RL.p T ?_
    refine RL.p T ?_
    first | refine RL.q (QV.remP rfl rfl rfl (by omega) (by omega)) ?_ | refine RL.q (QV.rem rfl rfl rfl (by omega) rfl) ?_
    refine RL.p T ?_
    refine RL.nil _ _ _ _ ?_
    refine hK6 _ _ _ ?_
    refine SW.cs (fun hc1 => ?_) (fun hc1 => ?_)
    ·skip
     first
      | (exfalso; first | contradiction | omega)
      | (
       refine SW.seq_k fun K7 hK7 => ?_
       refine SW.region _ _ _ _ ?_
       refine RL.p T ?_
       refine RL.p T ?_
       refine RL.nil _ _ _ _ ?_
       refine hK7 _ _ _ ?_
       refine SW.ret ?_
       refine retQ.rr (H) ?_
       clear hK7 K7 hK6 K6 hK5 K5 hK3 K3 hK2 K2 hK1 K1 hK0 K0
       refine ⟨?_, rfl⟩
       unfold packV
       first
         | (rw [if_neg (by omega), show chk es = 2 from (chk_or es).resolve_left (by omega)]; rfl)
         | (rw [if_pos (by omega), if_neg (by omega)]; rfl)
       )
    ·skip
     exfalso; first | contradiction | omega
    )
theorem rpack_ok {w0 : World} {H : List Chunk} (sa : Option Addr) (n c : Nat) (es : List Int) (hR : Rd w0 H sa n c 1 (es.map (.int .u8))) (hn : n = es.length) (hm : n ≤ 140737488351232) (hb : Byte es) (hc : chk es = 0) (h8 : es.length % 8 = 0) : SC Try.prog w0 18 #[.slice sa n c] H (fun v H' => RV w0 H (packV es).1 (packV es).2 v H') := by
 refine SC.enter Try.func18 rfl (Nat.le_of_ble_eq_true rfl) ?_
 refine SW.seq_k fun K0 hK0 => ?_
 refine SW.region _ _ _ _ ?_
 refine RL.p T ?_
 refine RL.p T ?_
 refine RL.nil _ _ _ _ ?_
 refine hK0 _ _ _ ?_
 refine SW.seq_k fun K1 hK1 => ?_
 refine SW.seq_k fun K2 hK2 => ?_
 refine SW.region _ _ _ _ ?_
 refine RL.p T ?_
 refine RL.c fun15 (fun hs => rcheck sa n c es hR hn hm) ?_
 rintro _ _ ⟨rfl, e⟩; obtain rfl := e.symm
 refine RL.p T ?_
 refine RL.nil _ _ _ _ ?_
 refine hK2 _ _ _ ?_
 refine SW.seq_k fun K3 hK3 => ?_
 refine SW.region _ _ _ _ ?_
 refine RL.p T ?_
 refine RL.p T ?_
 refine RL.nil _ _ _ _ ?_
 refine hK3 _ _ _ ?_
 refine SW.cs (fun hc0 => ?_) (fun hc0 => ?_)
 ·skip
  first
   | (exfalso; first | contradiction | omega)
   | (
    refine SW.seq_k fun K4 hK4 => ?_
    refine SW.region _ _ _ _ ?_
    refine RL.p T ?_
    refine RL.p T ?_
    refine RL.p T ?_
    refine RL.nil _ _ _ _ ?_
    refine hK4 _ _ _ ?_
    refine SW.sat (fun hs => ?_)
    refine SW.ret ?_
    refine retQ.rr _ ?_ (hH := fun w hw => hw)
    clear hK4 K4 hK3 K3 hK2 K2 hK1 K1 hK0 K0
    obtain rfl : k = es.length / 8 := by omega
    rw [show packV es = (packS (es.length / 8) es, 0) by unfold packV; rw [if_pos hc, if_pos h8]]
    exact ⟨_, rfl, ⟨_, _, _, rfl, (packS_len _ _).symm, Rd.rowh hs (by repeat first | exact At.head _ _ | apply At.tail), [_], rfl⟩⟩
    )
 ·skip
  first
   | (exfalso; first | contradiction | omega)
   | (
    refine SW.skip ?_
    refine hK1 _ _ _ ?_
    refine SW.seq_k fun K5 hK5 => ?_
    refine SW.seq_k fun K6 hK6 => ?_
    refine SW.region _ _ _ _ ?_
    refine RL.p T ?_
    refine RL.p T ?_
    first | refine RL.q (QV.remP rfl rfl rfl (by omega) (by omega)) ?_ | refine RL.q (QV.rem rfl rfl rfl (by omega) rfl) ?_
    refine RL.p T ?_
    refine RL.nil _ _ _ _ ?_
    refine hK6 _ _ _ ?_
    refine SW.cs (fun hc1 => ?_) (fun hc1 => ?_)
    ·skip
     first
      | (exfalso; first | contradiction | omega)
      | (
       refine SW.seq_k fun K7 hK7 => ?_
       refine SW.region _ _ _ _ ?_
       refine RL.p T ?_
       refine RL.p T ?_
       refine RL.nil _ _ _ _ ?_
       refine hK7 _ _ _ ?_
       refine SW.sat (fun hs => ?_)
       refine SW.ret ?_
       refine retQ.rr _ ?_ (hH := fun w hw => hw)
       clear hK7 K7 hK6 K6 hK5 K5 hK3 K3 hK2 K2 hK1 K1 hK0 K0
       obtain rfl : k = es.length / 8 := by omega
       rw [show packV es = (packS (es.length / 8) es, 0) by unfold packV; rw [if_pos hc, if_pos h8]]
       exact ⟨_, rfl, ⟨_, _, _, rfl, (packS_len _ _).symm, Rd.rowh hs (by repeat first | exact At.head _ _ | apply At.tail), [_], rfl⟩⟩
       )
    ·skip
     first
      | (exfalso; first | contradiction | omega)
      | (
       refine SW.skip ?_
       refine hK5 _ _ _ ?_
       refine SW.seq_k fun K8 hK8 => ?_
       refine SW.region _ _ _ _ ?_
       refine RL.nilrow 5 1 ?_
       refine RL.p T ?_
       refine RL.nil _ _ _ _ ?_
       refine hK8 _ _ _ ?_
       refine SW.seq_k fun K9 hK9 => ?_
       refine SW.seq_k fun K10 hK10 => ?_
       refine SW.region _ _ _ _ ?_
       refine RL.p T ?_
       refine RL.nil _ _ _ _ ?_
       refine hK10 _ _ _ ?_
       refine SW.block ?_
       refine SW.loopM (fun frB mm fr ds HH => ∃ (k : Nat) (a : Option Addr) (cc : Nat), mm = n - 8 * k ∧ (8 * k ≤ n) ∧ FrIs [5, 6, 16, 17, 18, 19, 20, 21, 22, 23, 24, 25, 26, 27, 28, 29, 30, 31] frB fr [(5, .slice a k cc), (6, .int .i64 (8 * k : Nat))] ∧ ds = [] ∧ HH = (.row a k cc 5 1 ((packS k es).map (.int .u8)) :: H)) (n := n - 0) ?_ ?_
       ·exact ⟨0, none, 0, rfl, by omega, (.cons rfl (.consI rfl (by first | omega | rfl) (.nil (by repeat first | exact Mx.refl | exact Mx.mix | refine Mx.put rfl ?_ | refine Mx.upd rfl ?_ | refine Mx.updl rfl ?_ | refine Mx.fin rfl ?_ | refine Mx.inner rfl ?_ | refine Mx.none ?_)))), rfl, rfl⟩
       ·rintro mm fr ds HH ⟨k, a, cc, rfl, hk8, hFr, rfl, eHH⟩
        obtain rfl := eHH.symm
        obtain ⟨frU, rfl⟩ := hFr.eq
        clear hFr
        have hB := (chk_bit hb hc).drop (k := 8 * k) |>.take (k := 8 * k + 8 - 8 * k)
        refine SW.seq_k fun K11 hK11 => ?_
        refine SW.seq_k fun K12 hK12 => ?_
        refine SW.region _ _ _ _ ?_
        refine RL.p T ?_
        refine RL.p T ?_
        refine RL.p T ?_
        refine RL.p T ?_
        refine RL.nil _ _ _ _ ?_
        refine hK12 _ _ _ ?_
        refine SW.cs (fun hc2 => ?_) (fun hc2 => ?_)
        ·skip
         first
          | (exfalso; first | contradiction | omega)
          | (
           refine SW.skip ?_
           refine hK11 _ _ _ ?_
           refine SW.seq_k fun K13 hK13 => ?_
           refine SW.block ?_
           have hLn : ((es.drop (8 * k)).take (8 * k + 8 - 8 * k)).length = 8 * k + 8 - 8 * k := by rw [List.length_take, List.length_drop]; omega
           have hN := numS_lt hB (m := 8) (by omega)
           have hP := (hR.part c (l := 8 * k) (h := 8 * k + 8) (by omega) (by omega) (by have := hR.cap; omega))
           refine SW.region _ _ _ _ ?_
           refine RL.p T ?_
           refine RL.p T ?_
           refine RL.p T ?_
           refine RL.p T ?_
           first | refine RL.ar ?_ | refine RL.p T ?_
           refine RL.sl T ?_ (l1 := 8 * k) (h1 := 8 * k + 8)
           refine RL.c fun27 (fun hs => rnum _ _ _ _ hP.cons hLn.symm (by omega) (by omega) hB) ?_
           rintro _ _ ⟨rfl, e⟩; obtain rfl := e.symm
           first | refine RL.cv T ?_ | refine RL.p T ?_ | refine RL.ts T ?_
           refine RL.bs T rfl rfl rfl (by exact (rfl : _ = some [_])) (fun b30_0 => ?_)
           first | refine RL.apI1 (ki := .u8) T (fun a0_ c0_ => ?_) | refine RL.apI (ki := .u8) T (fun a0_ c0_ => ?_) | refine RL.apI (ki := .u8) (xs := []) T (fun a0_ c0_ => ?_)
           refine RL.p T ?_
           refine RL.nil _ _ _ _ ?_
           refine hK13 _ _ _ ?_
           refine SW.region _ _ _ _ ?_
           refine RL.p T ?_
           first | refine RL.ar ?_ | refine RL.p T ?_
           refine RL.p T ?_
           refine RL.nil _ _ _ _ ?_
           exact ⟨n - 8 * (k + 1), (by omega), k + 1, _, _, (by rfl), by omega, (.cons rfl (.consI rfl (by first | omega | rfl) (.nil (by repeat first | exact Mx.refl | exact Mx.mix | refine Mx.put rfl ?_ | refine Mx.upd rfl ?_ | refine Mx.updl rfl ?_ | refine Mx.fin rfl ?_ | refine Mx.inner rfl ?_ | refine Mx.none ?_)))), rfl, (by rw [packS_snoc, Nat.add_sub_cancel_left])⟩
           )
        ·skip
         first
          | (exfalso; first | contradiction | omega)
          | (
           refine SW.exit ?_
           refine hK9 _ _ _ ?_
           refine SW.seq_k fun K14 hK14 => ?_
           refine SW.region _ _ _ _ ?_
           refine RL.p T ?_
           refine RL.p T ?_
           refine RL.p T ?_
           refine RL.nil _ _ _ _ ?_
           refine hK14 _ _ _ ?_
           refine SW.sat (fun hs => ?_)
           refine SW.ret ?_
           refine retQ.rr _ ?_ (hH := fun w hw => hw)
           clear hK14 K14 hK12 K12 hK11 K11 hK10 K10 hK9 K9 hK8 K8 hK6 K6 hK5 K5 hK3 K3 hK2 K2 hK1 K1 hK0 K0
           obtain rfl : k = es.length / 8 := by omega
           rw [show packV es = (packS (es.length / 8) es, 0) by unfold packV; rw [if_pos hc, if_pos h8]]
           exact ⟨_, rfl, ⟨_, _, _, rfl, (packS_len _ _).symm, Rd.rowh hs (by repeat first | exact At.head _ _ | apply At.tail), [_], rfl⟩⟩
           )
       )
    )
theorem packC {w0 : World} {H : List Chunk} (sa : Option Addr) (n c : Nat) (es : List Int) (hR : Rd w0 H sa n c 1 (es.map (.int .u8))) (hn : n = es.length) (hm : n ≤ 140737488351232) (hb : Byte es) : SC Try.prog w0 17 #[.slice sa n c] H (RV w0 H (packV es).1 (packV es).2) := by
  by_cases h : chk es = 0 ∧ es.length % 8 = 0
  · exact pack_ok sa n c es hR hn hm hb h.1 h.2
  · have e : (packV es).1 = [] := by unfold packV; split <;> (try split) <;> first | rfl | (exfalso; omega)
    rw [e]
    exact (pack_bad sa n c es hR hn hm hb (by omega)).mono (by rintro _ _ ⟨rfl, rfl⟩; exact ⟨_, rfl, Res.nil⟩)
theorem rpackC {w0 : World} {H : List Chunk} (sa : Option Addr) (n c : Nat) (es : List Int) (hR : Rd w0 H sa n c 1 (es.map (.int .u8))) (hn : n = es.length) (hm : n ≤ 140737488351232) (hb : Byte es) : SC Try.prog w0 18 #[.slice sa n c] H (RV w0 H (packV es).1 (packV es).2) := by
  by_cases h : chk es = 0 ∧ es.length % 8 = 0
  · exact rpack_ok sa n c es hR hn hm hb h.1 h.2
  · have e : (packV es).1 = [] := by unfold packV; split <;> (try split) <;> first | rfl | (exfalso; omega)
    rw [e]
    exact (rpack_bad sa n c es hR hn hm hb (by omega)).mono (by rintro _ _ ⟨rfl, rfl⟩; exact ⟨_, rfl, Res.nil⟩)
theorem alive {w0 : World} {H : List Chunk}  : SC Try.prog w0 7 #[] H (fun v H' => v = .bool true ∧ H' = H) := by
 refine SC.enter Try.func7 rfl (Nat.le_of_ble_eq_true rfl) ?_
 refine SW.seq_k fun K0 hK0 => ?_
 refine SW.region _ _ _ _ ?_
 refine RL.p T ?_
 refine RL.nil _ _ _ _ ?_
 refine hK0 _ _ _ ?_
 refine SW.seq_k fun K1 hK1 => ?_
 refine SW.region _ _ _ _ ?_
 refine RL.c fun9 (fun hs => (putC 5 4 (by omega) (by omega)).mono (fun v H' h => by rw [show putN 5 4 = ([0, 1, 0, 1], 0) by decide] at h; dsimp only at h; exact h)) ?_
 rintro _ _ ⟨_, rfl, a1, n1, c1, rfl, hn1, hR1, G1, e⟩; obtain rfl := e.symm; simp only [List.length_cons, List.length_nil] at hn1
 refine RL.p T ?_
 refine RL.p T ?_
 refine RL.p T ?_
 refine RL.p T ?_
 refine RL.p T ?_
 refine RL.nil _ _ _ _ ?_
 refine hK1 _ _ _ ?_
 refine SW.seq_k fun K2 hK2 => ?_
 refine SW.region _ _ _ _ ?_
 refine RL.p T ?_
 refine RL.c fun21 (fun hs => text_ok a1 n1 c1 [0, 1, 0, 1] hR1 hn1 (by omega) (by decide) (bit_iff.2 (by decide))) ?_
 rintro _ _ ⟨rfl, e⟩; obtain rfl := e.symm
 refine RL.p T ?_
 refine RL.p T ?_
 refine RL.p T ?_
 refine RL.p T ?_
 refine RL.p T ?_
 refine RL.nil _ _ _ _ ?_
 refine hK2 _ _ _ ?_
 refine SW.seq_k fun K3 hK3 => ?_
 refine SW.region _ _ _ _ ?_
 refine RL.p T ?_
 refine RL.p T ?_
 refine RL.p T ?_
 refine RL.join (fr1 := ?_) 2 16 true [17, 18] (fun hs0 hj => ?_) ?_ ?_
 rotate_left
 ·have hs0j := hs0
  try simp only [decide_eq_true_eq, Bool.not_eq_true', decide_eq_false_iff_not, Bool.not_eq_false', Int.not_lt, Int.not_le, Int.toNat_natCast, Bool.and_eq_true, Bool.or_eq_true, Bool.and_eq_false_iff, Bool.or_eq_false_iff] at hs0
  refine RL.p T ?_
  refine RL.p T ?_
  exact hj
 ·repeat first | exact Mx.refl | exact Mx.mix | refine Mx.put rfl ?_ | refine Mx.upd rfl ?_ | refine Mx.updl rfl ?_ | refine Mx.fin rfl ?_ | refine Mx.inner rfl ?_ | refine Mx.none ?_
 refine RL.and ?_
 refine RL.p T ?_
 refine RL.join (fr1 := ?_) 2 20 true [21, 22] (fun hs1 hj => ?_) ?_ ?_
 rotate_left
 ·have hs1j := hs1
  try simp only [decide_eq_true_eq, Bool.not_eq_true', decide_eq_false_iff_not, Bool.not_eq_false', Int.not_lt, Int.not_le, Int.toNat_natCast, Bool.and_eq_true, Bool.or_eq_true, Bool.and_eq_false_iff, Bool.or_eq_false_iff] at hs1
  refine RL.p T ?_
  refine RL.p T ?_
  exact hj
 ·repeat first | exact Mx.refl | exact Mx.mix | refine Mx.put rfl ?_ | refine Mx.upd rfl ?_ | refine Mx.updl rfl ?_ | refine Mx.fin rfl ?_ | refine Mx.inner rfl ?_ | refine Mx.none ?_
 refine RL.and ?_
 refine RL.p T ?_
 refine RL.sp 24 (fun hs2 => ?_) (fun hs2 => ?_)
 ·skip
  first
   | (exfalso; first | omega | contradiction | (simp at *; done))
   | (
    refine RL.bs T rfl rfl rfl (by exact (rfl : _ = some [_, _, _, _])) (fun b25_0 => ?_)
    refine RL.c fun8 (fun hs => brun _ 4 4 [0, 1, 1, 1] (Rd.rowh hs (At.head _ _)) rfl (by omega)) ?_
    rintro _ _ ⟨rfl, e⟩; obtain rfl := e.symm
    refine RL.p T ?_
    refine RL.p T ?_
    refine RL.p T ?_
    refine RL.nil _ _ _ _ ?_
    refine hK3 _ _ _ ?_
    refine SW.ret ?_
    refine retQ.rr (H) ?_
    clear hK3 K3 hK2 K2 hK1 K1 hK0 K0
    refine ⟨boolE ?_, rfl⟩
    first | (simp [strI_toList]; done) | decide | (exfalso; simp [strI_toList] at hs2; done)
    )
 ·skip
  first
   | (exfalso; first | omega | contradiction | (simp at *; done))
   | (
    refine RL.guard_no rfl rfl rfl ?_
    refine RL.guard_no rfl rfl rfl ?_
    refine RL.guard_no rfl rfl rfl ?_
    refine RL.p T ?_
    refine RL.p T ?_
    refine RL.nil _ _ _ _ ?_
    refine hK3 _ _ _ ?_
    refine SW.ret ?_
    refine retQ.rr (H) ?_
    clear hK3 K3 hK2 K2 hK1 K1 hK0 K0
    refine ⟨boolE ?_, rfl⟩
    first | (simp [strI_toList]; done) | decide | (exfalso; simp [strI_toList] at hs2; done)
    )
end Go.Proofs.Ytokihacnhefbfaa.M
