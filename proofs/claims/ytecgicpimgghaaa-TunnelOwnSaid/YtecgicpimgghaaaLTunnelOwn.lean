import Derived.Test.YtecgicpimgghaaaProg
import Derived.Test.YtecgicpimgghaaaFK18
import Derived.Test.YtecgicpimgghaaaP18b
set_option linter.unusedVariables false
set_option linter.unusedSimpArgs false
namespace Go.Proofs.Ytecgicpimgghaaa.M
open Go Go.Sep Go.Proofs
set_option maxRecDepth 10000
set_option maxHeartbeats 2000000
theorem openOwn {w0 : World} {H : List Chunk} (f : Frm) (sa : Option Addr) (n c : Nat) (hR : Rd w0 H sa n c 1 (f.data.map (.int .u8))) (hn : n = f.data.length) (hm : n ≤ 140737488351232) (hf : FrOk f) (hk : ¬ opens f ∨ f.sdt = 1) : SC Try.prog w0 22 #[FA f sa n c] H (fun v H' => ∃ a' c', v = .tuple #[EA zeroE none 0 0, FA (zeroF 0) none 0 0, .slice a' (openS f).length c', .int .i64 (openN f)] ∧ H' = .row a' (openS f).length c' 5 1 ((openS f).map (.int .u8)) :: H) := by
  by_cases ho : opens f
  · have h1 : f.sdt = 1 := hk.resolve_left (fun h => h ho)
    obtain ⟨e1, e2, e3, e4⟩ := open_rw ho (.inl h1)
    rw [e3, e4]
    exact open_raw1 f sa n c hR hn hm hf ho h1
  · obtain ⟨e1, e2, e3, e4⟩ := open_bd ho
    rw [e3, e4]
    refine SC.nilrow 5 1 ((open_bad f sa n c hR.cons hn hm hf (by unfold opens at ho; omega)).mono ?_)
    rintro _ _ ⟨rfl, rfl⟩
    exact ⟨none, 0, rfl, rfl⟩
theorem own_facts {es : List Int} (hl : es.length ≤ 2048) : (¬ opens (wrapR 3 4 1 es) ∨ ((wrapR 3 4 1 es)).sdt = 1) ∧ (chkF (wrapF 3 4 1 es) = 0 ↔ 0 < es.length) ∧ (openN (wrapR 3 4 1 es) = 0 ↔ 0 < es.length) ∧ (0 < es.length → ((wrapR 3 4 1 es)).data = es) := by
  by_cases h0 : es.length = 0
  · have hc := chk_wrap0 (id := 3) (vcid := 4) (sdt := 1) h0
    have hw : (wrapR 3 4 1 es) = zeroF 0 := if_neg hc
    have hno : ¬ opens (wrapR 3 4 1 es) := by rw [hw]; rintro ⟨h, _⟩; exact absurd h (by decide)
    have hb := open_bd hno
    refine ⟨.inl hno, ⟨fun h => absurd h hc, fun h => by omega⟩, ⟨fun h => (by rw [hb.2.2.2] at h; cases h), fun h => by omega⟩, fun h => by omega⟩
  · have hc := chk_wrap (id := 3) (vcid := 4) (sdt := 1) (es := es) (by omega) (by omega) hl
    have hw := wrapR_is hc
    have ho : opens (wrapR 3 4 1 es) := by rw [hw]; exact ⟨rfl, hc⟩
    have hs : ((wrapR 3 4 1 es)).sdt = 1 := by rw [hw]; rfl
    have hr := open_rw ho (.inl hs)
    refine ⟨.inr hs, ⟨fun _ => by omega, fun _ => hc⟩, ⟨fun _ => by omega, fun _ => hr.2.2.2⟩, fun _ => by rw [hw]; rfl⟩
theorem tunnelOwn {w0 : World} {H : List Chunk} (sa : Option Addr) (n c : Nat) (es : List Int) (hR : ∀ H, Rd w0 H sa n c 1 (es.map (.int .u8))) (hn : n = es.length) (hm : n ≤ 140737488351232) (hB : Byte es) : SC Try.prog w0 6 #[.slice sa n c] H (fun v H' => v = .bool true ∧ H' = H) := by
 refine SC.enter Try.func6 rfl (Nat.le_of_ble_eq_true rfl) ?_
 refine SW.seq_k fun K0 hK0 => ?_
 refine SW.region _ _ _ _ ?_
 refine RL.p T ?_
 refine RL.nil _ _ _ _ ?_
 refine hK0 _ _ _ ?_
 refine SW.seq_k fun K1 hK1 => ?_
 refine SW.seq_k fun K2 hK2 => ?_
 refine SW.region _ _ _ _ ?_
 refine RL.c fun8 (fun hs => alive) ?_
 rintro _ _ ⟨rfl, e⟩; obtain rfl := e.symm
 refine RL.p T ?_
 refine RL.nil _ _ _ _ ?_
 refine hK2 _ _ _ ?_
 refine SW.cs (fun hc0 => ?_) (fun hc0 => ?_)
 ·skip
  first
   | (exfalso; clear hK2 K2; clear hK1 K1; clear hK0 K0; first | omega | contradiction | (simp at *; done) | (simp_all; done))
   | (
    refine SW.seq_k fun K3 hK3 => ?_
    refine SW.region _ _ _ _ ?_
    refine RL.p T ?_
    refine RL.nil _ _ _ _ ?_
    refine hK3 _ _ _ ?_
    refine SW.ret ?_
    refine retQ.rr (H) ?_
    clear hK3 K3 hK2 K2 hK1 K1 hK0 K0
    first
      | exact ⟨rfl, rfl⟩
      | (refine ⟨boolE ?_, rfl⟩
         by_cases hz : 0 < n
         · have e1 := o2.2 (by omega); have e2 := o3.2 (by omega); have e3 := o4 (by omega); simp [hse, hsf, e1, e2, e3, hz]
         · have e1 : ¬ chkF (wrapF 3 4 1 es) = 0 := fun h => hz (by have := o2.1 h; omega)
           have e2 : ¬ openN (wrapR 3 4 1 es) = 0 := fun h => hz (by have := o3.1 h; omega)
           simp [hse, hsf, e1, e2, hz])
    )
 ·skip
  first
   | (exfalso; clear hK2 K2; clear hK1 K1; clear hK0 K0; first | omega | contradiction | (simp at *; done) | (simp_all; done))
   | (
    refine SW.skip ?_
    refine hK1 _ _ _ ?_
    refine SW.seq_k fun K4 hK4 => ?_
    refine SW.seq_k fun K5 hK5 => ?_
    refine SW.region _ _ _ _ ?_
    refine RL.p T ?_
    refine RL.p T ?_
    refine RL.p T ?_
    refine RL.nil _ _ _ _ ?_
    refine hK5 _ _ _ ?_
    refine SW.cs (fun hc1 => ?_) (fun hc1 => ?_)
    ·skip
     first
      | (exfalso; clear hK5 K5; clear hK4 K4; clear hK2 K2; clear hK1 K1; clear hK0 K0; first | omega | contradiction | (simp at *; done) | (simp_all; done))
      | (
       refine SW.seq_k fun K6 hK6 => ?_
       refine SW.region _ _ _ _ ?_
       refine RL.p T ?_
       refine RL.nil _ _ _ _ ?_
       refine hK6 _ _ _ ?_
       refine SW.ret ?_
       refine retQ.rr (H) ?_
       clear hK6 K6 hK5 K5 hK4 K4 hK2 K2 hK1 K1 hK0 K0
       first
         | exact ⟨rfl, rfl⟩
         | (refine ⟨boolE ?_, rfl⟩
            by_cases hz : 0 < n
            · have e1 := o2.2 (by omega); have e2 := o3.2 (by omega); have e3 := o4 (by omega); simp [hse, hsf, e1, e2, e3, hz]
            · have e1 : ¬ chkF (wrapF 3 4 1 es) = 0 := fun h => hz (by have := o2.1 h; omega)
              have e2 : ¬ openN (wrapR 3 4 1 es) = 0 := fun h => hz (by have := o3.1 h; omega)
              simp [hse, hsf, e1, e2, hz])
       )
    ·skip
     first
      | (exfalso; clear hK5 K5; clear hK4 K4; clear hK2 K2; clear hK1 K1; clear hK0 K0; first | omega | contradiction | (simp at *; done) | (simp_all; done))
      | (
       refine SW.skip ?_
       refine hK4 _ _ _ ?_
       refine SW.seq_k fun K7 hK7 => ?_
       refine SW.region _ _ _ _ ?_
       refine RL.bs T rfl rfl rfl (by exact (rfl : _ = some [])) (fun b25_0 => ?_)
       refine RL.p T ?_
       refine RL.apI (ki := .u8) (xs := []) (ys := es) T (fun a0_ c0_ => ?_) (hR := fun hs => (hR _))
       refine RL.p T ?_
       rw [Nat.zero_add, List.nil_append]
       refine RL.nil _ _ _ _ ?_
       refine hK7 _ _ _ ?_
       refine SW.seq_k fun K8 hK8 => ?_
       obtain ⟨o1, o2, o3, o4⟩ := own_facts (es := es) (by omega)
       have hgl := getEr_len es
       have hol := oldR_len es
       have hwl := wrapR_len 3 4 1 es
       have hwo : FrOk (wrapR 3 4 1 es) := wrapR_ok (by omega) (by omega) (by omega) hB
       have hsl := (open_len (wrapR 3 4 1 es)).2.2
       have hse := sameE_refl (getEr es)
       have hsf := sameF_refl (oldR es)
       refine SW.region _ _ _ _ ?_
       refine RL.p T ?_
       refine RL.c fun17 (fun hs => geteth a0_ n c0_ es (Rd.rowh hs (by repeat first | exact At.head _ _ | apply At.tail | apply At.app)) hn hm hB) ?_
       rintro _ _ ⟨a1, n1, c1, G1, rfl, hn1, hr1, e⟩; obtain rfl := e.symm
       refine RL.p T ?_
       refine RL.p T ?_
       refine RL.p T ?_
       refine RL.s ?_
       refine NV.alloc T rfl rfl rfl (by exact (rfl : _ = [_, _, _, _, _, _, _, _, _, _, _, _, _, _, _, _])) ?_
       intro b4_1
       refine RL.s ?_
       refine NV.sN T rfl rfl rfl (by exact (rfl : _ = [_, _, _, _, _, _, _, _, _, _, _, _, _, _, _, _])) (by exact (rfl : _ = [_, _, _, _, _, _, _, _, _, _, _, _, _, _, _, _])) ?_
       refine RL.p T ?_
       refine RL.nil _ _ _ _ ?_
       refine hK8 _ _ _ ?_
       refine SW.seq_k fun K9 hK9 => ?_
       refine SW.region _ _ _ _ ?_
       refine RL.p T ?_
       refine RL.c fun11 (fun hs => getold a0_ n c0_ es (Rd.rowh hs (by repeat first | exact At.head _ _ | apply At.tail | apply At.app)) hn hm hB) ?_
       rintro _ _ ⟨a2, n2, c2, G2, rfl, hn2, hr2, e⟩; obtain rfl := e.symm
       refine RL.p T ?_
       refine RL.p T ?_
       refine RL.p T ?_
       refine RL.s ?_
       refine NV.alloc T rfl rfl rfl (by exact (rfl : _ = [_, _, _, _, _, _, _, _, _, _, _])) ?_
       intro b6_2
       refine RL.s ?_
       refine NV.sN T rfl rfl rfl (by exact (rfl : _ = [_, _, _, _, _, _, _, _, _, _, _])) (by exact (rfl : _ = [_, _, _, _, _, _, _, _, _, _, _])) ?_
       refine RL.p T ?_
       refine RL.nil _ _ _ _ ?_
       refine hK9 _ _ _ ?_
       refine SW.seq_k fun K10 hK10 => ?_
       refine SW.region _ _ _ _ ?_
       refine RL.p T ?_
       refine RL.c fun20 (fun hs => wrap 3 4 1 (by omega) (by omega) (by omega) a0_ n c0_ es (Rd.rowh hs (by repeat first | exact At.head _ _ | apply At.tail | apply At.app)) hn hm hB) ?_
       rintro _ _ ⟨a3, n3, c3, G3, rfl, hn3, hr3, e⟩; obtain rfl := e.symm
       refine RL.p T ?_
       refine RL.p T ?_
       refine RL.p T ?_
       refine RL.s ?_
       refine NV.alloc T rfl rfl rfl (by exact (rfl : _ = [_, _, _, _, _, _, _, _, _, _, _])) ?_
       intro b8_3
       refine RL.s ?_
       refine NV.sN T rfl rfl rfl (by exact (rfl : _ = [_, _, _, _, _, _, _, _, _, _, _])) (by exact (rfl : _ = [_, _, _, _, _, _, _, _, _, _, _])) ?_
       refine RL.p T ?_
       refine RL.nil _ _ _ _ ?_
       refine hK10 _ _ _ ?_
       refine SW.seq_k fun K11 hK11 => ?_
       refine SW.region _ _ _ _ ?_
       refine RL.q (QV.vN T rfl rfl rfl rfl rfl (by exact (rfl : _ = [_, _, _, _, _, _, _, _, _, _, _]))) ?_
       refine RL.c fun22 (fun hs => openOwn (wrapR 3 4 1 es) a3 n3 c3 (by repeat first | exact hr3.appr | apply Rd.cons | apply Rd.app) hn3 (by omega) hwo o1) ?_
       rintro _ _ ⟨a4, c4, rfl, e⟩; obtain rfl := e.symm
       refine RL.p T ?_
       refine RL.p T ?_
       refine RL.p T ?_
       refine RL.p T ?_
       refine RL.p T ?_
       refine RL.s ?_
       refine NV.alloc T rfl rfl rfl (by exact (rfl : _ = [_, _, _, _, _, _, _, _, _, _, _, _, _, _, _, _])) ?_
       intro b10_4
       refine RL.s ?_
       refine NV.alloc T rfl rfl rfl (by exact (rfl : _ = [_, _, _, _, _, _, _, _, _, _, _])) ?_
       intro b11_5
       refine RL.s ?_
       refine NV.sN T rfl rfl rfl (by exact (rfl : _ = [_, _, _, _, _, _, _, _, _, _, _, _, _, _, _, _])) (by exact (rfl : _ = [_, _, _, _, _, _, _, _, _, _, _, _, _, _, _, _])) ?_
       refine RL.s ?_
       refine NV.sN T rfl rfl rfl (by exact (rfl : _ = [_, _, _, _, _, _, _, _, _, _, _])) (by exact (rfl : _ = [_, _, _, _, _, _, _, _, _, _, _])) ?_
       refine RL.p T ?_
       refine RL.p T ?_
       refine RL.nil _ _ _ _ ?_
       refine hK11 _ _ _ ?_
       refine SW.seq_k fun K12 hK12 => ?_
       refine SW.seq_k fun K13 hK13 => ?_
       refine SW.region _ _ _ _ ?_
       refine RL.p T ?_
       refine RL.p T ?_
       refine RL.p T ?_
       refine RL.nil _ _ _ _ ?_
       refine hK13 _ _ _ ?_
       refine SW.block ?_
       refine SW.loopM (fun frB mm fr ds HH => ∃ (k : Nat) , mm = (openS (wrapR 3 4 1 es)).length - k ∧ (k ≤ (openS (wrapR 3 4 1 es)).length ∧ (True)) ∧ FrIs [14, 52, 53, 54, 55, 56, 57, 58, 59, 60, 61] frB fr [(52, .int .i64 k)] ∧ ds = [] ∧ HH = (.var b11_5 25 (FC (zeroF 0) none 0 0) :: .var b10_4 40 (EC zeroE none 0 0) :: .row a4 (openS (wrapR 3 4 1 es)).length c4 5 1 ((((openS (wrapR 3 4 1 es)).take k).map inc ++ (openS (wrapR 3 4 1 es)).drop k).map (.int .u8)) :: .var b8_3 25 (FC (wrapR 3 4 1 es) a3 n3 c3) :: (G3 ++ (.var b6_2 25 (FC (oldR es) a2 n2 c2) :: (G2 ++ (.var b4_1 40 (EC (getEr es) a1 n1 c1) :: (G1 ++ (.row a0_ n c0_ 5 1 ((es).map (.int .u8)) :: H)))))))) (n := (openS (wrapR 3 4 1 es)).length - 0) ?_ ?_
       ·exact ⟨0, rfl, ⟨Nat.zero_le _, trivial⟩, (.cons rfl (.nil (by repeat first | exact Mx.refl | exact Mx.mix | refine Mx.put rfl ?_ | refine Mx.upd rfl ?_ | refine Mx.updl rfl ?_ | refine Mx.fin rfl ?_ | refine Mx.inner rfl ?_ | refine Mx.none ?_))), rfl, (by simp)⟩
       ·rintro mm fr ds HH ⟨k, rfl, ⟨hk, _⟩, hFr, rfl, eHH⟩
        obtain rfl := eHH.symm
        obtain ⟨frU, rfl⟩ := hFr.eq
        clear hFr
        have hkl : (((openS (wrapR 3 4 1 es)).take k).map inc ++ (openS (wrapR 3 4 1 es)).drop k).length = (openS (wrapR 3 4 1 es)).length := by simp [List.length_take]; omega
        refine SW.seq_k fun K14 hK14 => ?_
        refine SW.region _ _ _ _ ?_
        refine RL.p T ?_
        refine RL.nil _ _ _ _ ?_
        refine hK14 _ _ _ ?_
        refine SW.seq_k fun K15 hK15 => ?_
        refine SW.cs (fun hc2 => ?_) (fun hc2 => ?_)
        ·skip
         first
          | (exfalso; clear hK15 K15; clear hK14 K14; clear hK13 K13; clear hK12 K12; clear hK11 K11; clear hK10 K10; clear hK9 K9; clear hK8 K8; clear hK7 K7; clear hK5 K5; clear hK4 K4; clear hK2 K2; clear hK1 K1; clear hK0 K0; first | omega | contradiction | (simp at *; done) | (simp_all; done))
          | (
           refine SW.skip ?_
           refine hK15 _ _ _ ?_
           refine SW.seq_k fun K16 hK16 => ?_
           refine SW.block ?_
           refine SW.seq_k fun K17 hK17 => ?_
           refine SW.region _ _ _ _ ?_
           refine RL.p T ?_
           refine RL.p T ?_
           refine RL.nil _ _ _ _ ?_
           refine hK17 _ _ _ ?_
           refine SW.region _ _ _ _ ?_
           refine RL.p T ?_
           refine RL.p T ?_
           refine RL.ix T ?_ (hR := fun hs => (Rd.rowh hs (by repeat first | exact At.head _ _ | apply At.tail | apply At.app)))
           refine RL.le T ?_ (hR := fun hs => (Rd.rowh hs (by repeat first | exact At.head _ _ | apply At.tail | apply At.app))) (hv := (map_as (by omega) (inc_get (by omega))))
           first | refine RL.arK ?_ | refine RL.p T ?_
           refine RL.ix T ?_ (hR := fun hs => (Rd.rowh hs (by repeat first | exact At.head _ _ | apply At.tail | apply At.app)))
           refine RL.sei T ?_ (hl := (by omega))
           refine RL.nil _ _ _ _ ?_
           refine hK16 _ _ _ ?_
           refine SW.region _ _ _ _ ?_
           first | refine RL.ar ?_ | refine RL.p T ?_
           refine RL.p T ?_
           refine RL.nil _ _ _ _ ?_
           exact ⟨(openS (wrapR 3 4 1 es)).length - (k + 1), (by omega), k + 1, (by rfl), ⟨by omega, trivial⟩, (.cons rfl (.nil (by repeat first | exact Mx.refl | exact Mx.mix | refine Mx.put rfl ?_ | refine Mx.upd rfl ?_ | refine Mx.updl rfl ?_ | refine Mx.fin rfl ?_ | refine Mx.inner rfl ?_ | refine Mx.none ?_))), rfl, (by rw [← inc_step (by omega)]; rfl)⟩
           )
        ·skip
         first
          | (exfalso; clear hK15 K15; clear hK14 K14; clear hK13 K13; clear hK12 K12; clear hK11 K11; clear hK10 K10; clear hK9 K9; clear hK8 K8; clear hK7 K7; clear hK5 K5; clear hK4 K4; clear hK2 K2; clear hK1 K1; clear hK0 K0; first | omega | contradiction | (simp at *; done) | (simp_all; done))
          | (
           refine SW.exit ?_
           refine hK12 _ _ _ ?_
           refine SW.seq_k fun K18 hK18 => ?_
           refine SW.seq_k fun K19 hK19 => ?_
           have hkk : k = (openS (wrapR 3 4 1 es)).length := by omega
           rw [hkk, List.take_length, List.drop_length, List.append_nil]
           refine SW.region _ _ _ _ ?_
           refine RL.p T ?_
           refine RL.p T ?_
           refine RL.p T ?_
           refine RL.nil _ _ _ _ ?_
           refine hK19 _ _ _ ?_
           refine SW.block ?_
           refine SW.loopM (fun frB mm fr ds HH => ∃ (k : Nat) , mm = n - k ∧ (k ≤ n ∧ (True)) ∧ FrIs [15, 64, 65, 66, 67, 68, 69, 70, 71, 72, 73] frB fr [(64, .int .i64 k)] ∧ ds = [] ∧ HH = (.var b11_5 25 (FC (zeroF 0) none 0 0) :: .var b10_4 40 (EC zeroE none 0 0) :: .row a4 (openS (wrapR 3 4 1 es)).length c4 5 1 (((openS (wrapR 3 4 1 es)).map inc).map (.int .u8)) :: .var b8_3 25 (FC (wrapR 3 4 1 es) a3 n3 c3) :: (G3 ++ (.var b6_2 25 (FC (oldR es) a2 n2 c2) :: (G2 ++ (.var b4_1 40 (EC (getEr es) a1 n1 c1) :: (G1 ++ (.row a0_ n c0_ 5 1 (((es.take k).map inc ++ es.drop k).map (.int .u8)) :: H)))))))) (n := n - 0) ?_ ?_
           ·exact ⟨0, rfl, ⟨Nat.zero_le _, trivial⟩, (.cons rfl (.nil (by repeat first | exact Mx.refl | exact Mx.mix | refine Mx.put rfl ?_ | refine Mx.upd rfl ?_ | refine Mx.updl rfl ?_ | refine Mx.fin rfl ?_ | refine Mx.inner rfl ?_ | refine Mx.none ?_))), rfl, (by simp)⟩
           ·rintro mm fr ds HH ⟨k, rfl, ⟨hk, _⟩, hFr, rfl, eHH⟩
            obtain rfl := eHH.symm
            obtain ⟨frU, rfl⟩ := hFr.eq
            clear hFr
            have hkl : ((es.take k).map inc ++ es.drop k).length = es.length := by simp [List.length_take]; omega
            refine SW.seq_k fun K20 hK20 => ?_
            refine SW.region _ _ _ _ ?_
            refine RL.p T ?_
            refine RL.nil _ _ _ _ ?_
            refine hK20 _ _ _ ?_
            refine SW.seq_k fun K21 hK21 => ?_
            refine SW.cs (fun hc3 => ?_) (fun hc3 => ?_)
            ·skip
             first
              | (exfalso; clear hK21 K21; clear hK20 K20; clear hK19 K19; clear hK18 K18; clear hK15 K15; clear hK14 K14; clear hK13 K13; clear hK12 K12; clear hK11 K11; clear hK10 K10; clear hK9 K9; clear hK8 K8; clear hK7 K7; clear hK5 K5; clear hK4 K4; clear hK2 K2; clear hK1 K1; clear hK0 K0; first | omega | contradiction | (simp at *; done) | (simp_all; done))
              | (
               refine SW.skip ?_
               refine hK21 _ _ _ ?_
               refine SW.seq_k fun K22 hK22 => ?_
               refine SW.block ?_
               refine SW.seq_k fun K23 hK23 => ?_
               refine SW.region _ _ _ _ ?_
               refine RL.p T ?_
               refine RL.p T ?_
               refine RL.nil _ _ _ _ ?_
               refine hK23 _ _ _ ?_
               refine SW.region _ _ _ _ ?_
               refine RL.p T ?_
               refine RL.p T ?_
               refine RL.ix T ?_ (hR := fun hs => (Rd.rowh hs (by repeat first | exact At.head _ _ | apply At.tail | apply At.app)))
               refine RL.le T ?_ (hR := fun hs => (Rd.rowh hs (by repeat first | exact At.head _ _ | apply At.tail | apply At.app))) (hv := (map_as (by omega) (inc_get (by omega))))
               first | refine RL.arK ?_ | refine RL.p T ?_
               refine RL.ix T ?_ (hR := fun hs => (Rd.rowh hs (by repeat first | exact At.head _ _ | apply At.tail | apply At.app)))
               refine RL.sei T ?_ (hl := (by omega))
               refine RL.nil _ _ _ _ ?_
               refine hK22 _ _ _ ?_
               refine SW.region _ _ _ _ ?_
               first | refine RL.ar ?_ | refine RL.p T ?_
               refine RL.p T ?_
               refine RL.nil _ _ _ _ ?_
               exact ⟨n - (k + 1), (by omega), k + 1, (by rfl), ⟨by omega, trivial⟩, (.cons rfl (.nil (by repeat first | exact Mx.refl | exact Mx.mix | refine Mx.put rfl ?_ | refine Mx.upd rfl ?_ | refine Mx.updl rfl ?_ | refine Mx.fin rfl ?_ | refine Mx.inner rfl ?_ | refine Mx.none ?_))), rfl, (by rw [← inc_step (by omega)]; rfl)⟩
               )
            ·skip
             first
              | (exfalso; clear hK21 K21; clear hK20 K20; clear hK19 K19; clear hK18 K18; clear hK15 K15; clear hK14 K14; clear hK13 K13; clear hK12 K12; clear hK11 K11; clear hK10 K10; clear hK9 K9; clear hK8 K8; clear hK7 K7; clear hK5 K5; clear hK4 K4; clear hK2 K2; clear hK1 K1; clear hK0 K0; first | omega | contradiction | (simp at *; done) | (simp_all; done))
              | (
               refine SW.exit ?_
               refine hK18 _ _ _ ?_
               refine SW.seq_k fun K24 hK24 => ?_
               refine SW.region _ _ _ _ ?_
               refine RL.p T ?_
               refine RL.c fun17 (fun hs => geteth sa n c es (hR _) hn hm hB) ?_
               rintro _ _ ⟨a5, n5, c5, G5, rfl, hn5, hr5, e⟩; obtain rfl := e.symm
               refine RL.p T ?_
               refine RL.p T ?_
               refine RL.p T ?_
               refine RL.s ?_
               refine NV.alloc T rfl rfl rfl (by exact (rfl : _ = [_, _, _, _, _, _, _, _, _, _, _, _, _, _, _, _])) ?_
               intro b16_6
               refine RL.s ?_
               refine NV.sN T rfl rfl rfl (by exact (rfl : _ = [_, _, _, _, _, _, _, _, _, _, _, _, _, _, _, _])) (by exact (rfl : _ = [_, _, _, _, _, _, _, _, _, _, _, _, _, _, _, _])) ?_
               refine RL.p T ?_
               refine RL.nil _ _ _ _ ?_
               refine hK24 _ _ _ ?_
               refine SW.seq_k fun K25 hK25 => ?_
               refine SW.region _ _ _ _ ?_
               refine RL.p T ?_
               refine RL.c fun11 (fun hs => getold sa n c es (hR _) hn hm hB) ?_
               rintro _ _ ⟨a6, n6, c6, G6, rfl, hn6, hr6, e⟩; obtain rfl := e.symm
               refine RL.p T ?_
               refine RL.p T ?_
               refine RL.p T ?_
               refine RL.s ?_
               refine NV.alloc T rfl rfl rfl (by exact (rfl : _ = [_, _, _, _, _, _, _, _, _, _, _])) ?_
               intro b18_7
               refine RL.s ?_
               refine NV.sN T rfl rfl rfl (by exact (rfl : _ = [_, _, _, _, _, _, _, _, _, _, _])) (by exact (rfl : _ = [_, _, _, _, _, _, _, _, _, _, _])) ?_
               refine RL.p T ?_
               refine RL.nil _ _ _ _ ?_
               refine hK25 _ _ _ ?_
               refine SW.seq_k fun K26 hK26 => ?_
               refine SW.region _ _ _ _ ?_
               refine RL.p T ?_
               refine RL.p T ?_
               refine RL.p T ?_
               refine RL.p T ?_
               refine RL.join (fr1 := ?_) 3 87 true [88, 89, 90] (fun hs0 hj => ?_) ?_ ?_
               rotate_left
               ·have hs0j := hs0
                try simp only [decide_eq_true_eq, Bool.not_eq_true', decide_eq_false_iff_not, Bool.not_eq_false', Int.not_lt, Int.not_le, Int.toNat_natCast, Bool.and_eq_true, Bool.or_eq_true, Bool.and_eq_false_iff, Bool.or_eq_false_iff] at hs0
                refine RL.p T ?_
                refine RL.p T ?_
                refine RL.p T ?_
                exact hj
               ·repeat first | exact Mx.refl | exact Mx.mix | refine Mx.put rfl ?_ | refine Mx.upd rfl ?_ | refine Mx.updl rfl ?_ | refine Mx.fin rfl ?_ | refine Mx.inner rfl ?_ | refine Mx.none ?_
               refine RL.and ?_
               refine RL.p T ?_
               refine RL.join (fr1 := ?_) 3 92 true [93, 94, 95] (fun hs1 hj => ?_) ?_ ?_
               rotate_left
               ·have hs1j := hs1
                try simp only [decide_eq_true_eq, Bool.not_eq_true', decide_eq_false_iff_not, Bool.not_eq_false', Int.not_lt, Int.not_le, Int.toNat_natCast, Bool.and_eq_true, Bool.or_eq_true, Bool.and_eq_false_iff, Bool.or_eq_false_iff] at hs1
                refine RL.q (QV.vN T rfl rfl rfl rfl rfl (by exact (rfl : _ = [_, _, _, _, _, _, _, _, _, _, _, _, _, _, _, _]))) ?_
                refine RL.q (QV.vN T rfl rfl rfl rfl rfl (by exact (rfl : _ = [_, _, _, _, _, _, _, _, _, _, _, _, _, _, _, _]))) ?_
                refine RL.c fun19 (fun hs => esame (getEr es) a1 n1 c1 (by repeat first | exact hr1.appr | apply Rd.cons | apply Rd.app) hn1 (by omega) (getEr es) a5 n5 c5 (by repeat first | exact hr5.appr | apply Rd.cons | apply Rd.app) hn5 (by omega)) ?_
                rintro _ _ ⟨rfl, e⟩; obtain rfl := e.symm
                exact hj
               ·repeat first | exact Mx.refl | exact Mx.mix | refine Mx.put rfl ?_ | refine Mx.upd rfl ?_ | refine Mx.updl rfl ?_ | refine Mx.fin rfl ?_ | refine Mx.inner rfl ?_ | refine Mx.none ?_
               refine RL.and ?_
               refine RL.p T ?_
               refine RL.join (fr1 := ?_) 3 97 true [98, 99, 100] (fun hs2 hj => ?_) ?_ ?_
               rotate_left
               ·have hs2j := hs2
                try simp only [decide_eq_true_eq, Bool.not_eq_true', decide_eq_false_iff_not, Bool.not_eq_false', Int.not_lt, Int.not_le, Int.toNat_natCast, Bool.and_eq_true, Bool.or_eq_true, Bool.and_eq_false_iff, Bool.or_eq_false_iff] at hs2
                refine RL.q (QV.vN T rfl rfl rfl rfl rfl (by exact (rfl : _ = [_, _, _, _, _, _, _, _, _, _, _]))) ?_
                refine RL.q (QV.vN T rfl rfl rfl rfl rfl (by exact (rfl : _ = [_, _, _, _, _, _, _, _, _, _, _]))) ?_
                refine RL.c fun24 (fun hs => fsame (oldR es) a2 n2 c2 (by repeat first | exact hr2.appr | apply Rd.cons | apply Rd.app) hn2 (by omega) (oldR_ok hB) (oldR es) a6 n6 c6 (by repeat first | exact hr6.appr | apply Rd.cons | apply Rd.app) hn6 (by omega) (oldR_ok hB)) ?_
                rintro _ _ ⟨rfl, e⟩; obtain rfl := e.symm
                exact hj
               ·repeat first | exact Mx.refl | exact Mx.mix | refine Mx.put rfl ?_ | refine Mx.upd rfl ?_ | refine Mx.updl rfl ?_ | refine Mx.fin rfl ?_ | refine Mx.inner rfl ?_ | refine Mx.none ?_
               refine RL.and ?_
               refine RL.p T ?_
               refine RL.join (fr1 := ?_) 6 102 true [103, 104, 105, 106, 107, 108] (fun hs3 hj => ?_) ?_ ?_
               rotate_left
               ·have hs3j := hs3
                try simp only [decide_eq_true_eq, Bool.not_eq_true', decide_eq_false_iff_not, Bool.not_eq_false', Int.not_lt, Int.not_le, Int.toNat_natCast, Bool.and_eq_true, Bool.or_eq_true, Bool.and_eq_false_iff, Bool.or_eq_false_iff] at hs3
                refine RL.p T ?_
                refine RL.p T ?_
                refine RL.p T ?_
                refine RL.p T ?_
                refine RL.p T ?_
                refine RL.p T ?_
                exact hj
               ·repeat first | exact Mx.refl | exact Mx.mix | refine Mx.put rfl ?_ | refine Mx.upd rfl ?_ | refine Mx.updl rfl ?_ | refine Mx.fin rfl ?_ | refine Mx.inner rfl ?_ | refine Mx.none ?_
               refine RL.and ?_
               refine RL.p T ?_
               refine RL.join (fr1 := ?_) 6 110 true [111, 112, 113, 114, 115, 116] (fun hs4 hj => ?_) ?_ ?_
               rotate_left
               ·have hs4j := hs4
                try simp only [decide_eq_true_eq, Bool.not_eq_true', decide_eq_false_iff_not, Bool.not_eq_false', Int.not_lt, Int.not_le, Int.toNat_natCast, Bool.and_eq_true, Bool.or_eq_true, Bool.and_eq_false_iff, Bool.or_eq_false_iff] at hs4
                refine RL.p T ?_
                refine RL.p T ?_
                refine RL.p T ?_
                refine RL.p T ?_
                refine RL.p T ?_
                refine RL.p T ?_
                exact hj
               ·repeat first | exact Mx.refl | exact Mx.mix | refine Mx.put rfl ?_ | refine Mx.upd rfl ?_ | refine Mx.updl rfl ?_ | refine Mx.fin rfl ?_ | refine Mx.inner rfl ?_ | refine Mx.none ?_
               refine RL.and ?_
               refine RL.p T ?_
               refine RL.join (fr1 := ?_) 8 118 true [119, 120, 121, 122, 123, 124, 125, 126] (fun hs5 hj => ?_) ?_ ?_
               rotate_left
               ·have hs5j := hs5
                try simp only [decide_eq_true_eq, Bool.not_eq_true', decide_eq_false_iff_not, Bool.not_eq_false', Int.not_lt, Int.not_le, Int.toNat_natCast, Bool.and_eq_true, Bool.or_eq_true, Bool.and_eq_false_iff, Bool.or_eq_false_iff] at hs5
                refine RL.p T ?_
                refine RL.p T ?_
                refine RL.p T ?_
                refine RL.join (fr1 := ?_) 4 121 false [122, 123, 124, 125] (fun hs6 hj => ?_) ?_ ?_
                rotate_left
                ·have hs6j := hs6
                 try simp only [decide_eq_true_eq, Bool.not_eq_true', decide_eq_false_iff_not, Bool.not_eq_false', Int.not_lt, Int.not_le, Int.toNat_natCast, Bool.and_eq_true, Bool.or_eq_true, Bool.and_eq_false_iff, Bool.or_eq_false_iff] at hs6
                 refine RL.p T ?_
                 refine RL.lv1 T ?_
                 refine RL.p T ?_
                 refine RL.c fun13 (fun hs => same a3 sa n3 c3 n c ((wrapR 3 4 1 es)).data es (by repeat first | exact hr3.appr | apply Rd.cons | apply Rd.app) (hR _) hn3 hn (by omega) hm) ?_
                 rintro _ _ ⟨rfl, e⟩; obtain rfl := e.symm
                 exact hj
                ·repeat first | exact Mx.refl | exact Mx.mix | refine Mx.put rfl ?_ | refine Mx.upd rfl ?_ | refine Mx.updl rfl ?_ | refine Mx.fin rfl ?_ | refine Mx.inner rfl ?_ | refine Mx.none ?_
                refine RL.or ?_
                exact hj
               ·repeat first | exact Mx.refl | exact Mx.mix | refine Mx.put rfl ?_ | refine Mx.upd rfl ?_ | refine Mx.updl rfl ?_ | refine Mx.fin rfl ?_ | refine Mx.inner rfl ?_ | refine Mx.none ?_
               refine RL.and ?_
               refine RL.p T ?_
               refine RL.nil _ _ _ _ ?_
               refine hK26 _ _ _ ?_
               refine SW.ret ?_
               refine retQ.rr (H) ?_
               clear hK26 K26 hK25 K25 hK24 K24 hK21 K21 hK20 K20 hK19 K19 hK18 K18 hK15 K15 hK14 K14 hK13 K13 hK12 K12 hK11 K11 hK10 K10 hK9 K9 hK8 K8 hK7 K7 hK5 K5 hK4 K4 hK2 K2 hK1 K1 hK0 K0
               first
                 | exact ⟨rfl, rfl⟩
                 | (refine ⟨boolE ?_, rfl⟩
                    by_cases hz : 0 < n
                    · have e1 := o2.2 (by omega); have e2 := o3.2 (by omega); have e3 := o4 (by omega); simp [hse, hsf, e1, e2, e3, hz]
                    · have e1 : ¬ chkF (wrapF 3 4 1 es) = 0 := fun h => hz (by have := o2.1 h; omega)
                      have e2 : ¬ openN (wrapR 3 4 1 es) = 0 := fun h => hz (by have := o3.1 h; omega)
                      simp [hse, hsf, e1, e2, hz])
               )
           )
       )
    )
end Go.Proofs.Ytecgicpimgghaaa.M
