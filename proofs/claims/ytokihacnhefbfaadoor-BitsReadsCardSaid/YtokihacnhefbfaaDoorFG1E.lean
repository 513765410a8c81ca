import Derived.Test.YtokihacnhefbfaaDoorProg
import Derived.Test.YtokihacnhefbfaaDoorLZ01
import Derived.Test.YtokihacnhefbfaaDoorS25
import Derived.Test.YtokihacnhefbfaaDoorS32
import Derived.Test.YtokihacnhefbfaaDoorP1c
set_option linter.unusedVariables false
set_option linter.unusedSimpArgs false
namespace Go.Proofs.YtokihacnhefbfaaDoor.M
open Go Go.Sep Go.Proofs
set_option maxRecDepth 10000
set_option maxHeartbeats 2000000
theorem text_bad {w0 : World} {H : List Chunk} (sa : Option Addr) (n c : Nat) (es : List Int) (hR : Rd w0 H sa n c 1 (es.map (.int .u8))) (hn : n = es.length) (hm : n ≤ 140737488351232) (hc : chk es ≠ 0) : SC Tryd.prog w0 6 #[.slice sa n c] H (fun v H' => v = .tuple #[.string ⟨#[]⟩, .int .i64 (chk es)] ∧ H' = H) := by
 refine SC.enter Tryd.func6 rfl (Nat.le_of_ble_eq_true rfl) ?_
 refine SW.seq_k fun K0 hK0 => ?_
 refine SW.region _ _ _ _ ?_
 refine RL.p T ?_
 refine RL.p T ?_
 refine RL.nil _ _ _ _ ?_
 refine hK0 _ _ _ ?_
 refine SW.seq_k fun K1 hK1 => ?_
 refine SW.seq_k fun K2 hK2 => ?_
 refine SW.region _ _ _ _ ?_
 refine RL.p T ?_
 refine RL.c fun11 (fun hs => check sa n c es hR hn hm) ?_
 rintro _ _ ⟨rfl, e⟩; obtain rfl := e.symm
 refine RL.p T ?_
 refine RL.nil _ _ _ _ ?_
 refine hK2 _ _ _ ?_
 refine SW.seq_k fun K3 hK3 => ?_
 refine SW.region _ _ _ _ ?_
 refine RL.p T ?_
 refine RL.p T ?_
 refine RL.nil _ _ _ _ ?_
 refine hK3 _ _ _ ?_
 refine SW.cs (fun hc0 => ?_) (fun hc0 => ?_)
 ·skip
  first
   | (exfalso; first | contradiction | omega)
   | (
    refine SW.seq_k fun K4 hK4 => ?_
    refine SW.region _ _ _ _ ?_
    refine RL.p T ?_
    refine RL.p T ?_
    refine RL.p T ?_
    refine RL.nil _ _ _ _ ?_
    refine hK4 _ _ _ ?_
    refine SW.ret ?_
    refine retQ.rr (H) ?_
    clear hK4 K4 hK3 K3 hK2 K2 hK1 K1 hK0 K0
    exact ⟨rfl, rfl⟩
    )
 ·skip
  exfalso; first | contradiction | omega
theorem rtext_bad {w0 : World} {H : List Chunk} (sa : Option Addr) (n c : Nat) (es : List Int) (hR : Rd w0 H sa n c 1 (es.map (.int .u8))) (hn : n = es.length) (hm : n ≤ 140737488351232) (hc : chk es ≠ 0) : SC Tryd.prog w0 7 #[.slice sa n c] H (fun v H' => v = .tuple #[.string ⟨#[]⟩, .int .i64 (chk es)] ∧ H' = H) := by
 refine SC.enter Tryd.func7 rfl (Nat.le_of_ble_eq_true rfl) ?_
 refine SW.seq_k fun K0 hK0 => ?_
 refine SW.region _ _ _ _ ?_
 refine RL.p T ?_
 refine RL.p T ?_
 refine RL.nil _ _ _ _ ?_
 refine hK0 _ _ _ ?_
 refine SW.seq_k fun K1 hK1 => ?_
 refine SW.seq_k fun K2 hK2 => ?_
 refine SW.region _ _ _ _ ?_
 refine RL.p T ?_
 refine RL.c fun19 (fun hs => rcheck sa n c es hR hn hm) ?_
 rintro _ _ ⟨rfl, e⟩; obtain rfl := e.symm
 refine RL.p T ?_
 refine RL.nil _ _ _ _ ?_
 refine hK2 _ _ _ ?_
 refine SW.seq_k fun K3 hK3 => ?_
 refine SW.region _ _ _ _ ?_
 refine RL.p T ?_
 refine RL.p T ?_
 refine RL.nil _ _ _ _ ?_
 refine hK3 _ _ _ ?_
 refine SW.cs (fun hc0 => ?_) (fun hc0 => ?_)
 ·skip
  first
   | (exfalso; first | contradiction | omega)
   | (
    refine SW.seq_k fun K4 hK4 => ?_
    refine SW.region _ _ _ _ ?_
    refine RL.p T ?_
    refine RL.p T ?_
    refine RL.p T ?_
    refine RL.nil _ _ _ _ ?_
    refine hK4 _ _ _ ?_
    refine SW.ret ?_
    refine retQ.rr (H) ?_
    clear hK4 K4 hK3 K3 hK2 K2 hK1 K1 hK0 K0
    exact ⟨rfl, rfl⟩
    )
 ·skip
  exfalso; first | contradiction | omega
theorem rtext_ok {w0 : World} {H : List Chunk} (sa : Option Addr) (n c : Nat) (es : List Int) (hR : Rd w0 H sa n c 1 (es.map (.int .u8))) (hn : n = es.length) (hm : n ≤ 140737488351232) (hc : chk es = 0) (hb : Bit es) : SC Tryd.prog w0 7 #[.slice sa n c] H (fun v H' => v = .tuple #[.string (strI (es.map fun z => 48 + z)), .int .i64 0] ∧ H' = H) := by
 refine SC.enter Tryd.func7 rfl (Nat.le_of_ble_eq_true rfl) ?_
 refine SW.seq_k fun K0 hK0 => ?_
 refine SW.region _ _ _ _ ?_
 refine RL.p T ?_
 refine RL.p T ?_
 refine RL.nil _ _ _ _ ?_
 refine hK0 _ _ _ ?_
 refine SW.seq_k fun K1 hK1 => ?_
 refine SW.seq_k fun K2 hK2 => ?_
 refine SW.region _ _ _ _ ?_
 refine RL.p T ?_
 refine RL.c fun19 (fun hs => (rcheck sa n c es hR hn hm).mono (fun v H' h => by rw [hc] at h; exact h)) ?_
 rintro _ _ ⟨rfl, e⟩; obtain rfl := e.symm
 refine RL.p T ?_
 refine RL.nil _ _ _ _ ?_
 refine hK2 _ _ _ ?_
 refine SW.seq_k fun K3 hK3 => ?_
 refine SW.region _ _ _ _ ?_
 refine RL.p T ?_
 refine RL.p T ?_
 refine RL.nil _ _ _ _ ?_
 refine hK3 _ _ _ ?_
 refine SW.cs (fun hc0 => ?_) (fun hc0 => ?_)
 ·skip
  first
   | (exfalso; first | contradiction | omega)
   | (
    refine SW.seq_k fun K4 hK4 => ?_
    refine SW.region _ _ _ _ ?_
    refine RL.p T ?_
    refine RL.p T ?_
    refine RL.p T ?_
    refine RL.nil _ _ _ _ ?_
    refine hK4 _ _ _ ?_
    refine SW.ret ?_
    rw [List.take_of_length_le (by omega)]
    refine retQ.rr (H) ?_
    clear hK4 K4 hK3 K3 hK2 K2 hK1 K1 hK0 K0
    exact ⟨rfl, rfl⟩
    )
 ·skip
  first
   | (exfalso; first | contradiction | omega)
   | (
    refine SW.skip ?_
    refine hK1 _ _ _ ?_
    refine SW.seq_k fun K5 hK5 => ?_
    refine SW.region _ _ _ _ ?_
    refine RL.nilrow 5 1 ?_
    refine RL.p T ?_
    refine RL.nil _ _ _ _ ?_
    refine hK5 _ _ _ ?_
    refine SW.seq_k fun K6 hK6 => ?_
    refine SW.seq_k fun K7 hK7 => ?_
    refine SW.region _ _ _ _ ?_
    refine RL.p T ?_
    refine RL.p T ?_
    refine RL.p T ?_
    refine RL.nil _ _ _ _ ?_
    refine hK7 _ _ _ ?_
    refine SW.block ?_
    refine SW.loopM (fun frB mm fr ds HH => ∃ (k : Nat) (a : Option Addr) (cc : Nat), mm = n - k ∧ (k ≤ n ∧ (True)) ∧ FrIs [5, 7, 15, 16, 17, 18, 19, 20, 21, 22, 23, 24] frB fr [(15, .int .i64 k), (5, .slice a k cc)] ∧ ds = [] ∧ HH = (.row a k cc 5 1 (((es.take k).map fun z => 48 + z).map (.int .u8)) :: H)) (n := n - 0) ?_ ?_
    ·exact ⟨0, none, 0, rfl, ⟨Nat.zero_le _, trivial⟩, (.cons rfl (.cons rfl (.nil (by repeat first | with_reducible exact Mx.refl | with_reducible exact Mx.mix | refine Mx.put rfl ?_ | refine Mx.upd rfl ?_ | refine Mx.updl rfl ?_ | refine Mx.fin rfl ?_ | refine Mx.inner rfl ?_ | refine Mx.none ?_ | exact Mx.refl | exact Mx.mix)))), rfl, rfl⟩
    ·rintro mm fr ds HH ⟨k, a, cc, rfl, ⟨hk, _⟩, hFr, rfl, eHH⟩
     obtain rfl := eHH.symm
     obtain ⟨frU, rfl⟩ := hFr.eq
     clear hFr
     have hz := hb k
     refine SW.seq_k fun K8 hK8 => ?_
     refine SW.region _ _ _ _ ?_
     refine RL.p T ?_
     refine RL.nil _ _ _ _ ?_
     refine hK8 _ _ _ ?_
     refine SW.seq_k fun K9 hK9 => ?_
     refine SW.cs (fun hc1 => ?_) (fun hc1 => ?_)
     ·skip
      first
       | (exfalso; first | contradiction | omega)
       | (
        refine SW.skip ?_
        refine hK9 _ _ _ ?_
        refine SW.seq_k fun K10 hK10 => ?_
        refine SW.block ?_
        refine SW.seq_k fun K11 hK11 => ?_
        refine SW.region _ _ _ _ ?_
        refine RL.ix T ?_
        refine RL.le T ?_
        refine RL.p T ?_
        refine RL.nil _ _ _ _ ?_
        refine hK11 _ _ _ ?_
        refine SW.region _ _ _ _ ?_
        refine RL.p T ?_
        refine RL.p T ?_
        first | refine RL.arK ?_ | refine RL.p T ?_
        refine RL.bs T rfl rfl rfl (by exact (rfl : _ = some [_])) (fun b22_0 => ?_)
        first | refine RL.apI1 (ki := .u8) T (fun a0_ c0_ => ?_) | refine RL.apI (ki := .u8) T (fun a0_ c0_ => ?_) | refine RL.apI (ki := .u8) (xs := []) T (fun a0_ c0_ => ?_)
        refine RL.p T ?_
        refine RL.nil _ _ _ _ ?_
        refine hK10 _ _ _ ?_
        refine SW.region _ _ _ _ ?_
        first | refine RL.ar ?_ | refine RL.p T ?_
        refine RL.p T ?_
        refine RL.nil _ _ _ _ ?_
        exact ⟨n - (k + 1), (by omega), k + 1, a0_, c0_, (by rfl), ⟨by omega, trivial⟩, (.cons rfl (.cons rfl (.nil (by repeat first | with_reducible exact Mx.refl | with_reducible exact Mx.mix | refine Mx.put rfl ?_ | refine Mx.upd rfl ?_ | refine Mx.updl rfl ?_ | refine Mx.fin rfl ?_ | refine Mx.inner rfl ?_ | refine Mx.none ?_ | exact Mx.refl | exact Mx.mix)))), rfl, (by rw [take_succ (by omega)]; simp)⟩
        )
     ·skip
      first
       | (exfalso; first | contradiction | omega)
       | (
        refine SW.exit ?_
        refine hK6 _ _ _ ?_
        refine SW.seq_k fun K12 hK12 => ?_
        refine SW.region _ _ _ _ ?_
        refine RL.p T ?_
        first | refine RL.cv T ?_ | refine RL.p T ?_ | refine RL.ts T ?_
        refine RL.p T ?_
        refine RL.p T ?_
        refine RL.nil _ _ _ _ ?_
        refine hK12 _ _ _ ?_
        refine SW.ret ?_
        rw [List.take_of_length_le (by omega)]
        refine retQ.rr (H) ?_
        clear hK12 K12 hK9 K9 hK8 K8 hK7 K7 hK6 K6 hK5 K5 hK3 K3 hK2 K2 hK1 K1 hK0 K0
        exact ⟨rfl, rfl⟩
        )
    )
theorem textC {w0 : World} {H : List Chunk} (sa : Option Addr) (n c : Nat) (es : List Int) (hR : Rd w0 H sa n c 1 (es.map (.int .u8))) (hn : n = es.length) (hm : n ≤ 140737488351232) (hB : Byte es) : SC Tryd.prog w0 6 #[.slice sa n c] H (fun v H' => v = .tuple #[.string (if chk es = 0 then strI (es.map fun z => 48 + z) else ⟨#[]⟩), .int .i64 (chk es)] ∧ H' = H) := by
  by_cases hc : chk es = 0
  · rw [if_pos hc, hc]; exact text_ok sa n c es hR hn hm hc (chk_bit hB hc)
  · rw [if_neg hc]; exact text_bad sa n c es hR hn hm hc
theorem rtextC {w0 : World} {H : List Chunk} (sa : Option Addr) (n c : Nat) (es : List Int) (hR : Rd w0 H sa n c 1 (es.map (.int .u8))) (hn : n = es.length) (hm : n ≤ 140737488351232) (hB : Byte es) : SC Tryd.prog w0 7 #[.slice sa n c] H (fun v H' => v = .tuple #[.string (if chk es = 0 then strI (es.map fun z => 48 + z) else ⟨#[]⟩), .int .i64 (chk es)] ∧ H' = H) := by
  by_cases hc : chk es = 0
  · rw [if_pos hc, hc]; exact rtext_ok sa n c es hR hn hm hc (chk_bit hB hc)
  · rw [if_neg hc]; exact rtext_bad sa n c es hR hn hm hc
theorem fun20 : Fun Tryd.prog 20 := Fun.mk Tryd.func20 (by kernel_rfl) (by kernel_rfl)
theorem fun21 : Fun Tryd.prog 21 := Fun.mk Tryd.func21 (by kernel_rfl) (by kernel_rfl)
theorem readB {w0 : World} {H : List Chunk} (es : List Int) (hb : Byte es) (hl : es.length ≤ 65536) (mx : Int) (hml : w0.cell? ⟨0, 0, none⟩ = some (.int .i64 mx)) : SC Tryd.prog w0 8 #[.string (strI es)] H (fun v H' => RV w0 H (readS es).1 (readS es).2 v H') := by
 refine SC.enter Tryd.func8 rfl (Nat.le_of_ble_eq_true rfl) ?_
 refine SW.seq_k fun K0 hK0 => ?_
 have hfb := flt_byte hb
 have hfl := flt_len es
 have hsz := strI_size (fltI es)
 refine SW.region _ _ _ _ ?_
 refine RL.p T ?_
 refine RL.p T ?_
 refine RL.nil _ _ _ _ ?_
 refine hK0 _ _ _ ?_
 refine SW.seq_k fun K1 hK1 => ?_
 refine SW.region _ _ _ _ ?_
 refine RL.p T ?_
 refine RL.c fun20 (fun hs => replC es hb hl mx hml) ?_
 rintro _ _ ⟨rfl, e⟩; obtain rfl := e.symm
 refine RL.p T ?_
 refine RL.nil _ _ _ _ ?_
 refine hK1 _ _ _ ?_
 refine SW.seq_k fun K2 hK2 => ?_
 refine SW.seq_k fun K3 hK3 => ?_
 refine SW.region _ _ _ _ ?_
 refine RL.p T ?_
 refine RL.p T ?_
 refine RL.p T ?_
 refine RL.p T ?_
 refine RL.sp 11 (fun hs0 => ?_) (fun hs0 => ?_)
 ·skip
  exfalso; omega
 ·skip
  first
   | (exfalso; first | omega | contradiction | (clear hK3 K3; clear hK2 K2; clear hK1 K1; clear hK0 K0; simp at *; done))
   | (
    refine RL.p T ?_
    refine RL.c fun21 (fun hs => trimC (fltI es) hfb (by omega)) ?_
    rintro _ _ ⟨q, rfl, hq, e⟩; obtain rfl := e.symm
    refine RL.p T ?_
    rw [hq]
    refine RL.p T ?_
    refine RL.nil _ _ _ _ ?_
    refine hK3 _ _ _ ?_
    refine SW.cs (fun hc0 => ?_) (fun hc0 => ?_)
    ·skip
     first
      | (exfalso; first | omega | contradiction | (clear hK3 K3; clear hK2 K2; clear hK1 K1; clear hK0 K0; simp at *; done))
      | (
       refine SW.seq_k fun K4 hK4 => ?_
       refine SW.region _ _ _ _ ?_
       refine RL.p T ?_
       refine RL.p T ?_
       refine RL.nil _ _ _ _ ?_
       refine hK4 _ _ _ ?_
       refine SW.sat (fun hs => ?_)
       refine SW.ret ?_
       refine retQ.rr _ ?_ (hH := fun w hw => hw)
       clear hK4 K4 hK3 K3 hK2 K2 hK1 K1 hK0 K0
       rw [read_bad (by simpa [okC] using hc0)]
       exact ⟨_, rfl, Res.nil⟩
       )
    ·skip
     first
      | (exfalso; first | omega | contradiction | (clear hK3 K3; clear hK2 K2; clear hK1 K1; clear hK0 K0; simp at *; done))
      | (
       refine SW.skip ?_
       refine hK2 _ _ _ ?_
       refine SW.seq_k fun K5 hK5 => ?_
       have hok : okC es = true := by first | assumption | simp_all [okC]
       refine SW.region _ _ _ _ ?_
       refine RL.p T ?_
       refine RL.s (NV.bytesOf T rfl rfl rfl rfl rfl hfb (fun b cz mz hcz => ?_))
       refine RL.p T ?_
       refine RL.nil _ _ _ _ ?_
       refine hK5 _ _ _ ?_
       refine SW.seq_k fun K6 hK6 => ?_
       refine SW.seq_k fun K7 hK7 => ?_
       refine SW.region _ _ _ _ ?_
       refine RL.p T ?_
       refine RL.p T ?_
       refine RL.p T ?_
       refine RL.nil _ _ _ _ ?_
       refine hK7 _ _ _ ?_
       refine SW.block ?_
       refine SW.loopM (fun frB mm fr ds HH => ∃ (k : Nat), mm = (fltI es).length - k ∧ (k ≤ (fltI es).length) ∧ FrIs [5, 20, 21, 22, 23, 24, 25, 26, 27, 28, 29] frB fr [(20, .int .i64 k)] ∧ ds = [] ∧ HH = (.obj b (frzO 5 (((fltI es).take k).map (· - 48) ++ (fltI es).drop k) mz) :: H)) (n := (fltI es).length - 0) ?_ ?_
       ·exact ⟨0, rfl, Nat.zero_le _, (.consI rfl (by first | omega | rfl) (.nil (by repeat first | with_reducible exact Mx.refl | with_reducible exact Mx.mix | refine Mx.put rfl ?_ | refine Mx.upd rfl ?_ | refine Mx.updl rfl ?_ | refine Mx.fin rfl ?_ | refine Mx.inner rfl ?_ | refine Mx.none ?_ | exact Mx.refl | exact Mx.mix))), rfl, (by simp)⟩
       ·rintro mm fr ds HH ⟨k, rfl, hk, hFr, rfl, eHH⟩
        obtain rfl := eHH.symm
        obtain ⟨frU, rfl⟩ := hFr.eq
        clear hFr
        have hkl : (((fltI es).take k).map (· - 48) ++ (fltI es).drop k).length = (fltI es).length := by simp [List.length_take]; omega
        refine SW.seq_k fun K8 hK8 => ?_
        refine SW.region _ _ _ _ ?_
        refine RL.p T ?_
        refine RL.nil _ _ _ _ ?_
        refine hK8 _ _ _ ?_
        refine SW.seq_k fun K9 hK9 => ?_
        refine SW.cs (fun hc1 => ?_) (fun hc1 => ?_)
        ·skip
         first
          | (exfalso; first | omega | contradiction | (clear hK9 K9; clear hK8 K8; clear hK7 K7; clear hK6 K6; clear hK5 K5; clear hK3 K3; clear hK2 K2; clear hK1 K1; clear hK0 K0; simp at *; done))
          | (
           refine SW.skip ?_
           refine hK9 _ _ _ ?_
           refine SW.seq_k fun K10 hK10 => ?_
           refine SW.block ?_
           refine SW.seq_k fun K11 hK11 => ?_
           refine SW.region _ _ _ _ ?_
           refine RL.p T ?_
           refine RL.p T ?_
           refine RL.nil _ _ _ _ ?_
           refine hK11 _ _ _ ?_
           have hx := dec_get (l := fltI es) (k := k) (by omega)
           have hr := okC_get (k := k) hok (by omega)
           refine SW.region _ _ _ _ ?_
           refine RL.p T ?_
           refine RL.p T ?_
           refine RL.ix T ?_ (hR := fun hs => (Rd.frz (At.head _ _) hkl.symm hcz))
           refine RL.le T ?_ (hR := fun hs => (Rd.frz (At.head _ _) hkl.symm hcz)) (hv := (map_as (by omega) (dec_get (by omega))))
           first | refine RL.arK ?_ | refine RL.p T ?_
           refine RL.ix T ?_ (hR := fun hs => (Rd.frz (At.head _ _) hkl.symm hcz))
           refine RL.s ?_
           refine NV.stFrz T rfl rfl rfl rfl rfl (At.head _ _) (by omega) ?_
           refine RL.nil _ _ _ _ ?_
           refine hK10 _ _ _ ?_
           refine SW.region _ _ _ _ ?_
           first | refine RL.ar ?_ | refine RL.p T ?_
           refine RL.p T ?_
           refine RL.nil _ _ _ _ ?_
           exact ⟨(fltI es).length - (k + 1), (by omega), k + 1, (by rfl), by omega, (.consI rfl (by first | omega | rfl) (.nil (by repeat first | with_reducible exact Mx.refl | with_reducible exact Mx.mix | refine Mx.put rfl ?_ | refine Mx.upd rfl ?_ | refine Mx.updl rfl ?_ | refine Mx.fin rfl ?_ | refine Mx.inner rfl ?_ | refine Mx.none ?_ | exact Mx.refl | exact Mx.mix))), rfl, (by rw [dec_step (by omega)])⟩
           )
        ·skip
         first
          | (exfalso; first | omega | contradiction | (clear hK9 K9; clear hK8 K8; clear hK7 K7; clear hK6 K6; clear hK5 K5; clear hK3 K3; clear hK2 K2; clear hK1 K1; clear hK0 K0; simp at *; done))
          | (
           refine SW.exit ?_
           refine hK6 _ _ _ ?_
           refine SW.seq_k fun K12 hK12 => ?_
           refine SW.region _ _ _ _ ?_
           refine RL.p T ?_
           refine RL.p T ?_
           refine RL.p T ?_
           refine RL.nil _ _ _ _ ?_
           refine hK12 _ _ _ ?_
           refine SW.sat (fun hs => ?_)
           refine SW.ret ?_
           refine retQ.rr _ ?_ (hH := fun w hw => hw)
           clear hK12 K12 hK9 K9 hK8 K8 hK7 K7 hK6 K6 hK5 K5 hK3 K3 hK2 K2 hK1 K1 hK0 K0
           rw [read_ok hok]
           obtain rfl : k = (fltI es).length := by omega
           rw [List.take_length, List.drop_length, List.append_nil]
           exact ⟨_, rfl, _, _, _, rfl, by simp, Rd.frz (At.head _ _) (by simp) hcz, [_], rfl⟩
           )
       )
    )
theorem rread {w0 : World} {H : List Chunk} (es : List Int) (hb : Byte es) (hl : es.length ≤ 65536) : SC Tryd.prog w0 9 #[.string (strI es)] H (fun v H' => RV w0 H (readS es).1 (readS es).2 v H') := by
 refine SC.enter Tryd.func9 rfl (Nat.le_of_ble_eq_true rfl) ?_
 refine SW.seq_k fun K0 hK0 => ?_
 have hsz := strI_size es
 refine SW.region _ _ _ _ ?_
 refine RL.p T ?_
 refine RL.p T ?_
 refine RL.nil _ _ _ _ ?_
 refine hK0 _ _ _ ?_
 refine SW.seq_k fun K1 hK1 => ?_
 refine SW.region _ _ _ _ ?_
 refine RL.nilrow 5 1 ?_
 refine RL.p T ?_
 refine RL.nil _ _ _ _ ?_
 refine hK1 _ _ _ ?_
 refine SW.seq_k fun K2 hK2 => ?_
 refine SW.seq_k fun K3 hK3 => ?_
 refine SW.region _ _ _ _ ?_
 refine RL.p T ?_
 refine RL.nil _ _ _ _ ?_
 refine hK3 _ _ _ ?_
 refine SW.block ?_
 refine SW.loopM (fun frB mm fr ds HH => ∃ (k : Nat) (a : Option Addr) (m cc : Nat), mm = es.length - k ∧ (k ≤ es.length ∧ m = (fltI (es.take k)).length ∧ (∀ j, j < k → es.getD j 0 = 32 ∨ es.getD j 0 = 48 ∨ es.getD j 0 = 49)) ∧ FrIs [2, 3, 4, 5, 6, 7, 8, 9, 10, 11, 12, 13, 14, 15, 16, 17, 18, 19, 20, 21, 22, 23, 24, 25, 26] frB fr [(4, .slice a m cc), (5, .int .i64 k)] ∧ ds = [] ∧ HH = (.row a m cc 5 1 (((fltI (es.take k)).map (· - 48)).map (.int .u8)) :: H)) (n := es.length - 0) ?_ ?_
 ·exact ⟨0, none, 0, 0, rfl, ⟨Nat.zero_le _, rfl, fun j h => by omega⟩, (.cons rfl (.consI rfl (by first | omega | rfl) (.nil (by repeat first | with_reducible exact Mx.refl | with_reducible exact Mx.mix | refine Mx.put rfl ?_ | refine Mx.upd rfl ?_ | refine Mx.updl rfl ?_ | refine Mx.fin rfl ?_ | refine Mx.inner rfl ?_ | refine Mx.none ?_ | exact Mx.refl | exact Mx.mix)))), rfl, rfl⟩
 ·rintro mm fr ds HH ⟨k, a, m, cc, rfl, ⟨hk, hm2, hok⟩, hFr, rfl, eHH⟩
  obtain rfl := eHH.symm
  obtain ⟨frU, rfl⟩ := hFr.eq
  clear hFr
  have hml := Nat.le_trans (Nat.le_of_eq hm2) (flt_len (es.take k))
  rw [List.length_take] at hml
  refine SW.seq_k fun K4 hK4 => ?_
  refine SW.seq_k fun K5 hK5 => ?_
  refine SW.region _ _ _ _ ?_
  refine RL.p T ?_
  refine RL.p T ?_
  refine RL.p T ?_
  refine RL.p T ?_
  refine RL.nil _ _ _ _ ?_
  refine hK5 _ _ _ ?_
  refine SW.cs (fun hc0 => ?_) (fun hc0 => ?_)
  ·skip
   first
    | (exfalso; first | omega | contradiction | (clear hK5 K5; clear hK4 K4; clear hK3 K3; clear hK2 K2; clear hK1 K1; clear hK0 K0; simp at *; done))
    | (
     refine SW.skip ?_
     refine hK4 _ _ _ ?_
     refine SW.seq_k fun K6 hK6 => ?_
     refine SW.block ?_
     refine SW.seq_k fun K7 hK7 => ?_
     refine SW.region _ _ _ _ ?_
     refine RL.p T ?_
     refine RL.p T ?_
     refine RL.q (QV.strAt T rfl rfl rfl rfl hb (by omega)) ?_
     refine RL.nil _ _ _ _ ?_
     refine hK7 _ _ _ ?_
     refine SW.block ?_
     refine SW.seq_k fun K8 hK8 => ?_
     refine SW.region _ _ _ _ ?_
     refine RL.p T ?_
     refine RL.p T ?_
     refine RL.nil _ _ _ _ ?_
     refine hK8 _ _ _ ?_
     refine SW.cs (fun hc1 => ?_) (fun hc1 => ?_)
     ·skip
      first
       | (exfalso; first | omega | contradiction | (clear hK8 K8; clear hK7 K7; clear hK6 K6; clear hK5 K5; clear hK4 K4; clear hK3 K3; clear hK2 K2; clear hK1 K1; clear hK0 K0; simp at *; done))
       | (
        refine SW.skip ?_
        refine hK6 _ _ _ ?_
        refine SW.region _ _ _ _ ?_
        refine RL.p T ?_
        first | refine RL.ar ?_ | refine RL.p T ?_
        refine RL.p T ?_
        refine RL.nil _ _ _ _ ?_
        first
          | exact ⟨es.length - (k + 1), (by omega), k + 1, a, m, cc, (by rfl), ⟨by omega, by rw [flt_same (by omega) (by assumption)]; exact hm2, all_ext hok (.inl (by assumption))⟩, (.cons rfl (.consI rfl (by first | omega | rfl) (.nil (by repeat first | with_reducible exact Mx.refl | with_reducible exact Mx.mix | refine Mx.put rfl ?_ | refine Mx.upd rfl ?_ | refine Mx.updl rfl ?_ | refine Mx.fin rfl ?_ | refine Mx.inner rfl ?_ | refine Mx.none ?_ | exact Mx.refl | exact Mx.mix)))), rfl, (by rw [flt_same (by omega) (by assumption)])⟩
          | exact ⟨es.length - (k + 1), (by omega), k + 1, a0_, m + 1, c0_, (by rfl), ⟨by omega, by rw [flt_more (by omega) (by omega), List.length_append, ← hm2]; rfl, all_ext hok (by omega)⟩, (.cons rfl (.consI rfl (by first | omega | rfl) (.nil (by repeat first | with_reducible exact Mx.refl | with_reducible exact Mx.mix | refine Mx.put rfl ?_ | refine Mx.upd rfl ?_ | refine Mx.updl rfl ?_ | refine Mx.fin rfl ?_ | refine Mx.inner rfl ?_ | refine Mx.none ?_ | exact Mx.refl | exact Mx.mix)))), rfl, (by rw [flt_more (by omega) (by omega)]; simp)⟩
          | exact ⟨es.length - (k + 1), (by omega), k + 1, a1_, m + 1, c1_, (by rfl), ⟨by omega, by rw [flt_more (by omega) (by omega), List.length_append, ← hm2]; rfl, all_ext hok (by omega)⟩, (.cons rfl (.consI rfl (by first | omega | rfl) (.nil (by repeat first | with_reducible exact Mx.refl | with_reducible exact Mx.mix | refine Mx.put rfl ?_ | refine Mx.upd rfl ?_ | refine Mx.updl rfl ?_ | refine Mx.fin rfl ?_ | refine Mx.inner rfl ?_ | refine Mx.none ?_ | exact Mx.refl | exact Mx.mix)))), rfl, (by rw [flt_more (by omega) (by omega)]; simp)⟩
        )
     ·skip
      first
       | (exfalso; first | omega | contradiction | (clear hK8 K8; clear hK7 K7; clear hK6 K6; clear hK5 K5; clear hK4 K4; clear hK3 K3; clear hK2 K2; clear hK1 K1; clear hK0 K0; simp at *; done))
       | (
        refine SW.seq_k fun K9 hK9 => ?_
        refine SW.seq_k fun K10 hK10 => ?_
        refine SW.region _ _ _ _ ?_
        refine RL.p T ?_
        refine RL.p T ?_
        refine RL.nil _ _ _ _ ?_
        refine hK10 _ _ _ ?_
        refine SW.cs (fun hc2 => ?_) (fun hc2 => ?_)
        ·skip
         first
          | (exfalso; first | omega | contradiction | (clear hK10 K10; clear hK9 K9; clear hK8 K8; clear hK7 K7; clear hK6 K6; clear hK5 K5; clear hK4 K4; clear hK3 K3; clear hK2 K2; clear hK1 K1; clear hK0 K0; simp at *; done))
          | (
           refine SW.skip ?_
           refine hK9 _ _ _ ?_
           refine SW.cs (fun hc3 => ?_) (fun hc3 => ?_)
           ·skip
            first
             | (exfalso; first | omega | contradiction | (clear hK10 K10; clear hK9 K9; clear hK8 K8; clear hK7 K7; clear hK6 K6; clear hK5 K5; clear hK4 K4; clear hK3 K3; clear hK2 K2; clear hK1 K1; clear hK0 K0; simp at *; done))
             | (
              refine SW.region _ _ _ _ ?_
              refine RL.p T ?_
              refine RL.p T ?_
              refine RL.p T ?_
              refine RL.q (QV.strAt T rfl rfl rfl rfl hb (by omega)) ?_
              first | refine RL.arK ?_ | refine RL.p T ?_
              refine RL.bs T rfl rfl rfl (by exact (rfl : _ = some [_])) (fun b25_0 => ?_)
              first | refine RL.apI1 (ki := .u8) T (fun a0_ c0_ => ?_) | refine RL.apI (ki := .u8) T (fun a0_ c0_ => ?_) | refine RL.apI (ki := .u8) (xs := []) T (fun a0_ c0_ => ?_)
              refine RL.p T ?_
              refine RL.nil _ _ _ _ ?_
              refine hK6 _ _ _ ?_
              refine SW.region _ _ _ _ ?_
              refine RL.p T ?_
              first | refine RL.ar ?_ | refine RL.p T ?_
              refine RL.p T ?_
              refine RL.nil _ _ _ _ ?_
              first
                | exact ⟨es.length - (k + 1), (by omega), k + 1, a, m, cc, (by rfl), ⟨by omega, by rw [flt_same (by omega) (by assumption)]; exact hm2, all_ext hok (.inl (by assumption))⟩, (.cons rfl (.consI rfl (by first | omega | rfl) (.nil (by repeat first | with_reducible exact Mx.refl | with_reducible exact Mx.mix | refine Mx.put rfl ?_ | refine Mx.upd rfl ?_ | refine Mx.updl rfl ?_ | refine Mx.fin rfl ?_ | refine Mx.inner rfl ?_ | refine Mx.none ?_ | exact Mx.refl | exact Mx.mix)))), rfl, (by rw [flt_same (by omega) (by assumption)])⟩
                | exact ⟨es.length - (k + 1), (by omega), k + 1, a0_, m + 1, c0_, (by rfl), ⟨by omega, by rw [flt_more (by omega) (by omega), List.length_append, ← hm2]; rfl, all_ext hok (by omega)⟩, (.cons rfl (.consI rfl (by first | omega | rfl) (.nil (by repeat first | with_reducible exact Mx.refl | with_reducible exact Mx.mix | refine Mx.put rfl ?_ | refine Mx.upd rfl ?_ | refine Mx.updl rfl ?_ | refine Mx.fin rfl ?_ | refine Mx.inner rfl ?_ | refine Mx.none ?_ | exact Mx.refl | exact Mx.mix)))), rfl, (by rw [flt_more (by omega) (by omega)]; simp)⟩
                | exact ⟨es.length - (k + 1), (by omega), k + 1, a1_, m + 1, c1_, (by rfl), ⟨by omega, by rw [flt_more (by omega) (by omega), List.length_append, ← hm2]; rfl, all_ext hok (by omega)⟩, (.cons rfl (.consI rfl (by first | omega | rfl) (.nil (by repeat first | with_reducible exact Mx.refl | with_reducible exact Mx.mix | refine Mx.put rfl ?_ | refine Mx.upd rfl ?_ | refine Mx.updl rfl ?_ | refine Mx.fin rfl ?_ | refine Mx.inner rfl ?_ | refine Mx.none ?_ | exact Mx.refl | exact Mx.mix)))), rfl, (by rw [flt_more (by omega) (by omega)]; simp)⟩
              )
           ·skip
            first
             | (exfalso; first | omega | contradiction | (clear hK10 K10; clear hK9 K9; clear hK8 K8; clear hK7 K7; clear hK6 K6; clear hK5 K5; clear hK4 K4; clear hK3 K3; clear hK2 K2; clear hK1 K1; clear hK0 K0; simp at *; done))
             | (
              refine SW.seq_k fun K11 hK11 => ?_
              refine SW.region _ _ _ _ ?_
              refine RL.p T ?_
              refine RL.p T ?_
              refine RL.nil _ _ _ _ ?_
              refine hK11 _ _ _ ?_
              refine SW.sat (fun hs => ?_)
              refine SW.ret ?_
              refine retQ.rr _ ?_ (hH := fun w hw => hw)
              clear hK11 K11 hK10 K10 hK9 K9 hK8 K8 hK7 K7 hK6 K6 hK5 K5 hK4 K4 hK3 K3 hK2 K2 hK1 K1 hK0 K0
              rw [read_bad (okC_sub (k := k) (by omega) (by omega))]
              exact ⟨_, rfl, Res.nil⟩
              )
           )
        ·skip
         first
          | (exfalso; first | omega | contradiction | (clear hK10 K10; clear hK9 K9; clear hK8 K8; clear hK7 K7; clear hK6 K6; clear hK5 K5; clear hK4 K4; clear hK3 K3; clear hK2 K2; clear hK1 K1; clear hK0 K0; simp at *; done))
          | (
           refine SW.region _ _ _ _ ?_
           refine RL.p T ?_
           refine RL.p T ?_
           refine RL.nil _ _ _ _ ?_
           refine hK9 _ _ _ ?_
           refine SW.cs (fun hc4 => ?_) (fun hc4 => ?_)
           ·skip
            first
             | (exfalso; first | omega | contradiction | (clear hK10 K10; clear hK9 K9; clear hK8 K8; clear hK7 K7; clear hK6 K6; clear hK5 K5; clear hK4 K4; clear hK3 K3; clear hK2 K2; clear hK1 K1; clear hK0 K0; simp at *; done))
             | (
              refine SW.region _ _ _ _ ?_
              refine RL.p T ?_
              refine RL.p T ?_
              refine RL.p T ?_
              refine RL.q (QV.strAt T rfl rfl rfl rfl hb (by omega)) ?_
              first | refine RL.arK ?_ | refine RL.p T ?_
              refine RL.bs T rfl rfl rfl (by exact (rfl : _ = some [_])) (fun b25_1 => ?_)
              first | refine RL.apI1 (ki := .u8) T (fun a1_ c1_ => ?_) | refine RL.apI (ki := .u8) T (fun a1_ c1_ => ?_) | refine RL.apI (ki := .u8) (xs := []) T (fun a1_ c1_ => ?_)
              refine RL.p T ?_
              refine RL.nil _ _ _ _ ?_
              refine hK6 _ _ _ ?_
              refine SW.region _ _ _ _ ?_
              refine RL.p T ?_
              first | refine RL.ar ?_ | refine RL.p T ?_
              refine RL.p T ?_
              refine RL.nil _ _ _ _ ?_
              first
                | exact ⟨es.length - (k + 1), (by omega), k + 1, a, m, cc, (by rfl), ⟨by omega, by rw [flt_same (by omega) (by assumption)]; exact hm2, all_ext hok (.inl (by assumption))⟩, (.cons rfl (.consI rfl (by first | omega | rfl) (.nil (by repeat first | with_reducible exact Mx.refl | with_reducible exact Mx.mix | refine Mx.put rfl ?_ | refine Mx.upd rfl ?_ | refine Mx.updl rfl ?_ | refine Mx.fin rfl ?_ | refine Mx.inner rfl ?_ | refine Mx.none ?_ | exact Mx.refl | exact Mx.mix)))), rfl, (by rw [flt_same (by omega) (by assumption)])⟩
                | exact ⟨es.length - (k + 1), (by omega), k + 1, a0_, m + 1, c0_, (by rfl), ⟨by omega, by rw [flt_more (by omega) (by omega), List.length_append, ← hm2]; rfl, all_ext hok (by omega)⟩, (.cons rfl (.consI rfl (by first | omega | rfl) (.nil (by repeat first | with_reducible exact Mx.refl | with_reducible exact Mx.mix | refine Mx.put rfl ?_ | refine Mx.upd rfl ?_ | refine Mx.updl rfl ?_ | refine Mx.fin rfl ?_ | refine Mx.inner rfl ?_ | refine Mx.none ?_ | exact Mx.refl | exact Mx.mix)))), rfl, (by rw [flt_more (by omega) (by omega)]; simp)⟩
                | exact ⟨es.length - (k + 1), (by omega), k + 1, a1_, m + 1, c1_, (by rfl), ⟨by omega, by rw [flt_more (by omega) (by omega), List.length_append, ← hm2]; rfl, all_ext hok (by omega)⟩, (.cons rfl (.consI rfl (by first | omega | rfl) (.nil (by repeat first | with_reducible exact Mx.refl | with_reducible exact Mx.mix | refine Mx.put rfl ?_ | refine Mx.upd rfl ?_ | refine Mx.updl rfl ?_ | refine Mx.fin rfl ?_ | refine Mx.inner rfl ?_ | refine Mx.none ?_ | exact Mx.refl | exact Mx.mix)))), rfl, (by rw [flt_more (by omega) (by omega)]; simp)⟩
              )
           ·skip
            first
             | (exfalso; first | omega | contradiction | (clear hK10 K10; clear hK9 K9; clear hK8 K8; clear hK7 K7; clear hK6 K6; clear hK5 K5; clear hK4 K4; clear hK3 K3; clear hK2 K2; clear hK1 K1; clear hK0 K0; simp at *; done))
             | (
              refine SW.seq_k fun K12 hK12 => ?_
              refine SW.region _ _ _ _ ?_
              refine RL.p T ?_
              refine RL.p T ?_
              refine RL.nil _ _ _ _ ?_
              refine hK12 _ _ _ ?_
              refine SW.sat (fun hs => ?_)
              refine SW.ret ?_
              refine retQ.rr _ ?_ (hH := fun w hw => hw)
              clear hK12 K12 hK10 K10 hK9 K9 hK8 K8 hK7 K7 hK6 K6 hK5 K5 hK4 K4 hK3 K3 hK2 K2 hK1 K1 hK0 K0
              rw [read_bad (okC_sub (k := k) (by omega) (by omega))]
              exact ⟨_, rfl, none, 0, 0, rfl, rfl, Rd.nilS, [_], rfl⟩
              )
           )
        )
     )
  ·skip
   first
    | (exfalso; first | omega | contradiction | (clear hK5 K5; clear hK4 K4; clear hK3 K3; clear hK2 K2; clear hK1 K1; clear hK0 K0; simp at *; done))
    | (
     refine SW.exit ?_
     refine hK2 _ _ _ ?_
     refine SW.seq_k fun K13 hK13 => ?_
     refine SW.seq_k fun K14 hK14 => ?_
     refine SW.region _ _ _ _ ?_
     refine RL.p T ?_
     refine RL.p T ?_
     refine RL.p T ?_
     refine RL.nil _ _ _ _ ?_
     refine hK14 _ _ _ ?_
     refine SW.cs (fun hc5 => ?_) (fun hc5 => ?_)
     ·skip
      first
       | (exfalso; first | omega | contradiction | (clear hK14 K14; clear hK13 K13; clear hK5 K5; clear hK4 K4; clear hK3 K3; clear hK2 K2; clear hK1 K1; clear hK0 K0; simp at *; done))
       | (
        refine SW.seq_k fun K15 hK15 => ?_
        refine SW.region _ _ _ _ ?_
        refine RL.p T ?_
        refine RL.p T ?_
        refine RL.nil _ _ _ _ ?_
        refine hK15 _ _ _ ?_
        refine SW.sat (fun hs => ?_)
        refine SW.ret ?_
        refine retQ.rr _ ?_ (hH := fun w hw => hw)
        clear hK15 K15 hK14 K14 hK13 K13 hK5 K5 hK4 K4 hK3 K3 hK2 K2 hK1 K1 hK0 K0
        have hok2 : okC es = true := okC_all (fun j hj => hok j (by omega))
        rw [List.take_of_length_le (by omega)] at hm2 hs ⊢
        rw [read_ok hok2]
        exact ⟨_, rfl, Res.row hs (At.head _ _) (G := [_]) rfl⟩
        )
     ·skip
      first
       | (exfalso; first | omega | contradiction | (clear hK14 K14; clear hK13 K13; clear hK5 K5; clear hK4 K4; clear hK3 K3; clear hK2 K2; clear hK1 K1; clear hK0 K0; simp at *; done))
       | (
        refine SW.skip ?_
        refine hK13 _ _ _ ?_
        refine SW.seq_k fun K16 hK16 => ?_
        refine SW.region _ _ _ _ ?_
        refine RL.p T ?_
        refine RL.p T ?_
        refine RL.p T ?_
        refine RL.nil _ _ _ _ ?_
        refine hK16 _ _ _ ?_
        refine SW.sat (fun hs => ?_)
        refine SW.ret ?_
        refine retQ.rr _ ?_ (hH := fun w hw => hw)
        clear hK16 K16 hK14 K14 hK13 K13 hK5 K5 hK4 K4 hK3 K3 hK2 K2 hK1 K1 hK0 K0
        have hok2 : okC es = true := okC_all (fun j hj => hok j (by omega))
        rw [List.take_of_length_le (by omega)] at hm2 hs ⊢
        rw [read_ok hok2]
        exact ⟨_, rfl, Res.row hs (At.head _ _) (G := [_]) rfl⟩
        )
     )
end Go.Proofs.YtokihacnhefbfaaDoor.M
