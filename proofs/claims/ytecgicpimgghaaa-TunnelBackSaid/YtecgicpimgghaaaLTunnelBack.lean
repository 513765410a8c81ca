import Derived.Test.YtecgicpimgghaaaProg
import Derived.Test.YtecgicpimgghaaaFK18
import Derived.Test.YtecgicpimgghaaaFE18
import Derived.Test.YtecgicpimgghaaaP18b
set_option linter.unusedVariables false
set_option linter.unusedSimpArgs false
namespace Go.Proofs.Ytecgicpimgghaaa.M
open Go Go.Sep Go.Proofs
set_option maxRecDepth 10000
set_option maxHeartbeats 2000000
theorem back3 {x : Eth} (he : EOk x) (h : (putE x).2 = 0) : getEe (putE x).1 = 0 ∧ sameE (getEr (putE x).1) x = true ∧ chkF (wrapF 1 2 3 (putE x).1) = 0 ∧ openN (wrapR 1 2 3 (putE x).1) = 0 ∧ sameE (openE (wrapR 1 2 3 (putE x).1)) x = true := by
  obtain ⟨hE1, hl14, hl2048, hge, hse⟩ := eth_get he h
  rw [hE1]
  have hc := chk_wrap (id := 1) (vcid := 2) (sdt := 3) (es := ethB x) (by omega) (by omega) (by omega)
  have ho : opens (wrapF 1 2 3 (ethB x)) := ⟨rfl, hc⟩
  have h3 := open_et ho rfl
  refine ⟨hge, hse, hc, ?_, ?_⟩
  · rw [wrapR_is hc, h3.2.2.2]; exact hge
  · rw [wrapR_is hc, h3.1]; exact hse
theorem back6 {f : Frm} (hf : FrOk f) (h : (putO f).2 = 0) : oldE (putO f).1 = 0 ∧ sameF (oldR (putO f).1) f = true ∧ chkF (wrapF 1 2 6 (putO f).1) = 0 ∧ openN (wrapR 1 2 6 (putO f).1) = 0 ∧ sameF (openO (wrapR 1 2 6 (putO f).1)) f = true := by
  have hnb : ¬ (f.kind = 3 ∨ chkF f ≠ 0) := fun hb => by rw [putO_bad hb] at h; cases h
  have hg := old_get hf (by omega) (by omega)
  rw [putO_ok (by omega) (by omega)]
  have hl := oldB_len f
  have hm := old_max (f := f) (by omega) (by omega)
  have hc := chk_wrap (id := 1) (vcid := 2) (sdt := 6) (es := oldB f) (by omega) (by omega) (by omega)
  have ho : opens (wrapF 1 2 6 (oldB f)) := ⟨rfl, hc⟩
  have h3 := open_ol ho rfl
  refine ⟨hg.1, ?_, hc, ?_, ?_⟩
  · rw [hg.2]; exact sameF_refl f
  · rw [wrapR_is hc, h3.2.2.2]; exact hg.1
  · rw [wrapR_is hc, h3.2.1]
    show sameF (oldR (oldB f)) f = true
    rw [hg.2]; exact sameF_refl f
theorem putE_byte {x : Eth} (he : EOk x) : Byte (putE x).1 := by
  unfold putE
  have two_byte : ∀ y : Int, 0 ≤ y ∧ y ≤ 65535 → Byte (two y) := fun y hy z hz => by
    simp only [two, List.mem_cons, List.mem_nil_iff, or_false] at hz
    rcases hz with rfl | rfl <;> omega
  split
  · exact Byte.nil
  · unfold ethB ethH
    refine ((Byte.append (t12_byte he.byte) ?_).append (two_byte _ he.typ)).append he.data
    split
    · rw [List.flatMap_cons, List.flatMap_cons, List.flatMap_nil, List.append_nil]
      exact (two_byte _ (by omega)).append (two_byte _ he.tag)
    · exact Byte.nil
theorem putO_byte {f : Frm} (hf : FrOk f) : Byte (putO f).1 := by
  have hid := hf.id
  have c0 := b2_cases (decide (f.kind = 2)) 1
  have c1 := b2_cases f.ext 2
  have c2 := b2_cases f.rtr 4
  have c3 := b2_cases f.brs 8
  have c4 := b2_cases f.esi 16
  have hfl : flagsF f = b2 (decide (f.kind = 2)) 1 + b2 f.ext 2 + b2 f.rtr 4 + b2 f.brs 8 + b2 f.esi 16 := rfl
  have f32 : flagsF f < 32 := by omega
  have f0 : 0 ≤ flagsF f := by omega
  unfold putO
  split
  · exact Byte.nil
  · unfold oldB
    refine Byte.append ?_ hf.data
    intro z hz
    simp only [List.mem_cons, List.mem_nil_iff, or_false] at hz
    rcases hz with rfl | rfl | rfl | rfl | rfl | rfl <;> omega
theorem tunnelBack {w0 : World} {H : List Chunk} (x : Eth) (sa : Option Addr) (n c : Nat) (hR : ∀ H, Rd w0 H sa n c 1 (x.data.map (.int .u8))) (hn : n = x.data.length) (hm : n ≤ 140737488351232) (he : EOk x) (f : Frm) (sc : Option Addr) (m d : Nat) (hS : ∀ H, Rd w0 H sc m d 1 (f.data.map (.int .u8))) (hnm : m = f.data.length) (hmm : m ≤ 140737488351232) (hf : FrOk f) (sab : Option Addr) (nb cb : Nat) (esb : List Int) (hRb : ∀ H, Rd w0 H sab nb cb 1 (esb.map (.int .u8))) (hnb : nb = esb.length) (hmb : nb ≤ 140737488351232) (hB : Byte esb) : SC Try.prog w0 7 #[EA x sa n c, FA f sc m d, .slice sab nb cb] H (fun v H' => v = .bool true ∧ H' = H) := by
 refine SC.enter Try.func7 rfl (Nat.le_of_ble_eq_true rfl) ?_
 refine SW.seq_k fun K0 hK0 => ?_
 refine SW.region _ _ _ _ ?_
 refine RL.s ?_
 refine NV.box rfl (by exact (rfl : _ = [_, _, _, _, _, _, _, _, _, _, _, _, _, _, _, _])) ?_
 intro b3_0
 refine RL.s ?_
 refine NV.box rfl (by exact (rfl : _ = [_, _, _, _, _, _, _, _, _, _, _])) ?_
 intro b4_1
 refine RL.p T ?_
 refine RL.nil _ _ _ _ ?_
 refine hK0 _ _ _ ?_
 refine SW.seq_k fun K1 hK1 => ?_
 refine SW.seq_k fun K2 hK2 => ?_
 refine SW.region _ _ _ _ ?_
 refine RL.c fun8 (fun hs => alive) ?_
 rintro _ _ ⟨rfl, e⟩; obtain rfl := e.symm
 refine RL.p T ?_
 refine RL.nil _ _ _ _ ?_
 refine hK2 _ _ _ ?_
 refine SW.cs (fun hc0 => ?_) (fun hc0 => ?_)
 ·skip
  first
   | (exfalso; clear hK2 K2; clear hK1 K1; clear hK0 K0; first | omega | contradiction | (simp at *; done) | (simp_all; done))
   | (
    refine SW.seq_k fun K3 hK3 => ?_
    refine SW.region _ _ _ _ ?_
    refine RL.p T ?_
    refine RL.nil _ _ _ _ ?_
    refine hK3 _ _ _ ?_
    refine SW.ret ?_
    refine retQ.rr (H) ?_
    clear hK3 K3 hK2 K2 hK1 K1 hK0 K0
    first
      | exact ⟨rfl, rfl⟩
      | (exfalso; simp_all; done)
    )
 ·skip
  first
   | (exfalso; clear hK2 K2; clear hK1 K1; clear hK0 K0; first | omega | contradiction | (simp at *; done) | (simp_all; done))
   | (
    refine SW.skip ?_
    refine hK1 _ _ _ ?_
    refine SW.seq_k fun K4 hK4 => ?_
    refine SW.seq_k fun K5 hK5 => ?_
    refine SW.region _ _ _ _ ?_
    refine RL.p T ?_
    refine RL.lv1 T ?_
    refine RL.p T ?_
    refine RL.p T ?_
    refine RL.p T ?_
    refine RL.join (fr1 := ?_) 4 41 false [42, 43, 44, 45] (fun hs0 hj => ?_) ?_ ?_
    rotate_left
    ·have hs0j := hs0
     try simp only [decide_eq_true_eq, Bool.not_eq_true', decide_eq_false_iff_not, Bool.not_eq_false', Int.not_lt, Int.not_le, Int.toNat_natCast, Bool.and_eq_true, Bool.or_eq_true, Bool.and_eq_false_iff, Bool.or_eq_false_iff] at hs0
     refine RL.p T ?_
     refine RL.lv1 T ?_
     refine RL.p T ?_
     refine RL.p T ?_
     exact hj
    ·repeat first | exact Mx.refl | exact Mx.mix | refine Mx.put rfl ?_ | refine Mx.upd rfl ?_ | refine Mx.updl rfl ?_ | refine Mx.fin rfl ?_ | refine Mx.inner rfl ?_ | refine Mx.none ?_
    refine RL.or ?_
    refine RL.p T ?_
    refine RL.join (fr1 := ?_) 3 47 false [48, 49, 50] (fun hs1 hj => ?_) ?_ ?_
    rotate_left
    ·have hs1j := hs1
     try simp only [decide_eq_true_eq, Bool.not_eq_true', decide_eq_false_iff_not, Bool.not_eq_false', Int.not_lt, Int.not_le, Int.toNat_natCast, Bool.and_eq_true, Bool.or_eq_true, Bool.and_eq_false_iff, Bool.or_eq_false_iff] at hs1
     refine RL.p T ?_
     refine RL.p T ?_
     refine RL.p T ?_
     exact hj
    ·repeat first | exact Mx.refl | exact Mx.mix | refine Mx.put rfl ?_ | refine Mx.upd rfl ?_ | refine Mx.updl rfl ?_ | refine Mx.fin rfl ?_ | refine Mx.inner rfl ?_ | refine Mx.none ?_
    refine RL.or ?_
    refine RL.nil _ _ _ _ ?_
    refine hK5 _ _ _ ?_
    refine SW.cs (fun hc1 => ?_) (fun hc1 => ?_)
    ·skip
     first
      | (exfalso; clear hK5 K5; clear hK4 K4; clear hK2 K2; clear hK1 K1; clear hK0 K0; first | omega | contradiction | (simp at *; done) | (simp_all; done))
      | (
       refine SW.seq_k fun K6 hK6 => ?_
       refine SW.region _ _ _ _ ?_
       refine RL.p T ?_
       refine RL.nil _ _ _ _ ?_
       refine hK6 _ _ _ ?_
       refine SW.ret ?_
       refine retQ.rr (H) ?_
       clear hK6 K6 hK5 K5 hK4 K4 hK2 K2 hK1 K1 hK0 K0
       first
         | exact ⟨rfl, rfl⟩
         | (exfalso; simp_all; done)
       )
    ·skip
     first
      | (exfalso; clear hK5 K5; clear hK4 K4; clear hK2 K2; clear hK1 K1; clear hK0 K0; first | omega | contradiction | (simp at *; done) | (simp_all; done))
      | (
       refine SW.skip ?_
       refine hK4 _ _ _ ?_
       refine SW.seq_join [6, 7, 8, 9, 10, 11, 12, 13, 14, 15, 16, 52, 53, 54, 55, 56, 57, 58, 59, 60, 61, 62, 63, 64, 65, 66, 67, 68, 69, 70, 71, 72, 73, 74, 75, 76, 77, 78, 79, 80, 81, 82, 83, 84, 85, 86, 87, 88, 89, 90, 91, 92, 93, 94, 95, 96, 97] ((.var b4_1 25 (FC f sc m d) :: .var b3_0 38 (EC x sa n c) :: H)) (fun K7 hK7 => ?_) (fun frU7 => ?_)
       ·skip
        refine SW.seq_k fun K8 hK8 => ?_
        have hpl := putE_len x
        have hpb := putE_byte he
        refine SW.region _ _ _ _ ?_
        refine RL.q (QV.vN T rfl rfl rfl rfl rfl (by exact (rfl : _ = [_, _, _, _, _, _, _, _, _, _, _, _, _, _, _, _]))) ?_
        refine RL.c fun15 (fun hs => puteth x sa n c (hR _) hn (by omega) he) ?_
        rintro _ _ ⟨a1, c1, rfl, e⟩; obtain rfl := e.symm
        refine RL.p T ?_
        refine RL.p T ?_
        refine RL.p T ?_
        refine RL.p T ?_
        refine RL.p T ?_
        refine RL.nil _ _ _ _ ?_
        refine hK8 _ _ _ ?_
        refine SW.seq_k fun K9 hK9 => ?_
        refine SW.region _ _ _ _ ?_
        refine RL.p T ?_
        refine RL.p T ?_
        refine RL.nil _ _ _ _ ?_
        refine hK9 _ _ _ ?_
        refine SW.cs (fun hc2 => ?_) (fun hc2 => ?_)
        ·skip
         first
          | (exfalso; clear hK9 K9; clear hK8 K8; clear hK7 K7; clear hK5 K5; clear hK4 K4; clear hK2 K2; clear hK1 K1; clear hK0 K0; first | omega | contradiction | (simp at *; done) | (simp_all; done))
          | (
           refine SW.seq_k fun K10 hK10 => ?_
           obtain ⟨k1, k2, k3, k4, k5⟩ := back3 he (by omega)
           have hgl := getEr_len (putE x).1
           have hwl := wrapR_len 1 2 3 (putE x).1
           have hwo : FrOk (wrapR 1 2 3 (putE x).1) := wrapR_ok (by omega) (by omega) (by omega) hpb
           have hol := open_len (wrapR 1 2 3 (putE x).1)
           refine SW.region _ _ _ _ ?_
           refine RL.p T ?_
           refine RL.c fun17 (fun hs => geteth a1 _ c1 (putE x).1 (Rd.rowh hs (by repeat first | exact At.head _ _ | apply At.tail | apply At.app)) rfl (by omega) hpb) ?_
           rintro _ _ ⟨a2, n2, c2, G2, rfl, hn2, hr2, e⟩; obtain rfl := e.symm
           refine RL.p T ?_
           refine RL.p T ?_
           refine RL.p T ?_
           refine RL.s ?_
           refine NV.alloc T rfl rfl rfl (by exact (rfl : _ = [_, _, _, _, _, _, _, _, _, _, _, _, _, _, _, _])) ?_
           intro b9_2
           refine RL.s ?_
           refine NV.sN T rfl rfl rfl (by exact (rfl : _ = [_, _, _, _, _, _, _, _, _, _, _, _, _, _, _, _])) (by exact (rfl : _ = [_, _, _, _, _, _, _, _, _, _, _, _, _, _, _, _])) ?_
           refine RL.p T ?_
           refine RL.nil _ _ _ _ ?_
           refine hK10 _ _ _ ?_
           refine SW.seq_k fun K11 hK11 => ?_
           refine SW.region _ _ _ _ ?_
           refine RL.p T ?_
           refine RL.c fun20 (fun hs => wrap 1 2 3 (by omega) (by omega) (by omega) a1 _ c1 (putE x).1 (Rd.rowh hs (by repeat first | exact At.head _ _ | apply At.tail | apply At.app)) rfl (by omega) hpb) ?_
           rintro _ _ ⟨a3, n3, c3, G3, rfl, hn3, hr3, e⟩; obtain rfl := e.symm
           refine RL.p T ?_
           refine RL.p T ?_
           refine RL.p T ?_
           refine RL.s ?_
           refine NV.alloc T rfl rfl rfl (by exact (rfl : _ = [_, _, _, _, _, _, _, _, _, _, _])) ?_
           intro b11_3
           refine RL.s ?_
           refine NV.sN T rfl rfl rfl (by exact (rfl : _ = [_, _, _, _, _, _, _, _, _, _, _])) (by exact (rfl : _ = [_, _, _, _, _, _, _, _, _, _, _])) ?_
           refine RL.p T ?_
           refine RL.nil _ _ _ _ ?_
           refine hK11 _ _ _ ?_
           refine SW.seq_k fun K12 hK12 => ?_
           refine SW.region _ _ _ _ ?_
           refine RL.q (QV.vN T rfl rfl rfl rfl rfl (by exact (rfl : _ = [_, _, _, _, _, _, _, _, _, _, _]))) ?_
           refine RL.c fun22 (fun hs => openC (wrapR 1 2 3 (putE x).1) a3 n3 c3 (by repeat first | exact hr3.appr | apply Rd.cons | apply Rd.app) hn3 (by omega) hwo) ?_
           rintro _ _ ⟨p5, l5, q5, p6, l6, q6, p7, l7, q7, G5, rfl, hl5, hl6, hl7, hq5, hq6, hq7, e⟩; obtain rfl := e.symm
           refine RL.p T ?_
           refine RL.p T ?_
           refine RL.p T ?_
           refine RL.p T ?_
           refine RL.p T ?_
           refine RL.s ?_
           refine NV.alloc T rfl rfl rfl (by exact (rfl : _ = [_, _, _, _, _, _, _, _, _, _, _, _, _, _, _, _])) ?_
           intro b13_4
           refine RL.s ?_
           refine NV.alloc T rfl rfl rfl (by exact (rfl : _ = [_, _, _, _, _, _, _, _, _, _, _])) ?_
           intro b14_5
           refine RL.s ?_
           refine NV.sN T rfl rfl rfl (by exact (rfl : _ = [_, _, _, _, _, _, _, _, _, _, _, _, _, _, _, _])) (by exact (rfl : _ = [_, _, _, _, _, _, _, _, _, _, _, _, _, _, _, _])) ?_
           refine RL.s ?_
           refine NV.sN T rfl rfl rfl (by exact (rfl : _ = [_, _, _, _, _, _, _, _, _, _, _])) (by exact (rfl : _ = [_, _, _, _, _, _, _, _, _, _, _])) ?_
           refine RL.p T ?_
           refine RL.p T ?_
           refine RL.nil _ _ _ _ ?_
           refine hK12 _ _ _ ?_
           refine SW.seq_k fun K13 hK13 => ?_
           refine SW.region _ _ _ _ ?_
           refine RL.p T ?_
           refine RL.p T ?_
           refine RL.p T ?_
           refine RL.join (fr1 := ?_) 4 78 false [79, 80, 81, 82] (fun hs2 hj => ?_) ?_ ?_
           rotate_left
           ·have hs2j := hs2
            try simp only [decide_eq_true_eq, Bool.not_eq_true', decide_eq_false_iff_not, Bool.not_eq_false', Int.not_lt, Int.not_le, Int.toNat_natCast, Bool.and_eq_true, Bool.or_eq_true, Bool.and_eq_false_iff, Bool.or_eq_false_iff] at hs2
            refine RL.q (QV.vN T rfl rfl rfl rfl rfl (by exact (rfl : _ = [_, _, _, _, _, _, _, _, _, _, _, _, _, _, _, _]))) ?_
            refine RL.q (QV.vN T rfl rfl rfl rfl rfl (by exact (rfl : _ = [_, _, _, _, _, _, _, _, _, _, _, _, _, _, _, _]))) ?_
            refine RL.c fun19 (fun hs => esame (getEr (putE x).1) a2 n2 c2 (by repeat first | exact hr2.appr | apply Rd.cons | apply Rd.app) hn2 (by omega) x sa n c (hR _) hn (by omega)) ?_
            rintro _ _ ⟨rfl, e⟩; obtain rfl := e.symm
            refine RL.p T ?_
            exact hj
           ·repeat first | exact Mx.refl | exact Mx.mix | refine Mx.put rfl ?_ | refine Mx.upd rfl ?_ | refine Mx.updl rfl ?_ | refine Mx.fin rfl ?_ | refine Mx.inner rfl ?_ | refine Mx.none ?_
           refine RL.or ?_
           refine RL.p T ?_
           refine RL.join (fr1 := ?_) 2 84 false [85, 86] (fun hs3 hj => ?_) ?_ ?_
           rotate_left
           ·have hs3j := hs3
            try simp only [decide_eq_true_eq, Bool.not_eq_true', decide_eq_false_iff_not, Bool.not_eq_false', Int.not_lt, Int.not_le, Int.toNat_natCast, Bool.and_eq_true, Bool.or_eq_true, Bool.and_eq_false_iff, Bool.or_eq_false_iff] at hs3
            refine RL.p T ?_
            refine RL.p T ?_
            exact hj
           ·repeat first | exact Mx.refl | exact Mx.mix | refine Mx.put rfl ?_ | refine Mx.upd rfl ?_ | refine Mx.updl rfl ?_ | refine Mx.fin rfl ?_ | refine Mx.inner rfl ?_ | refine Mx.none ?_
           refine RL.or ?_
           refine RL.p T ?_
           refine RL.join (fr1 := ?_) 2 88 false [89, 90] (fun hs4 hj => ?_) ?_ ?_
           rotate_left
           ·have hs4j := hs4
            try simp only [decide_eq_true_eq, Bool.not_eq_true', decide_eq_false_iff_not, Bool.not_eq_false', Int.not_lt, Int.not_le, Int.toNat_natCast, Bool.and_eq_true, Bool.or_eq_true, Bool.and_eq_false_iff, Bool.or_eq_false_iff] at hs4
            refine RL.p T ?_
            refine RL.p T ?_
            exact hj
           ·repeat first | exact Mx.refl | exact Mx.mix | refine Mx.put rfl ?_ | refine Mx.upd rfl ?_ | refine Mx.updl rfl ?_ | refine Mx.fin rfl ?_ | refine Mx.inner rfl ?_ | refine Mx.none ?_
           refine RL.or ?_
           refine RL.p T ?_
           refine RL.join (fr1 := ?_) 4 92 false [93, 94, 95, 96] (fun hs5 hj => ?_) ?_ ?_
           rotate_left
           ·have hs5j := hs5
            try simp only [decide_eq_true_eq, Bool.not_eq_true', decide_eq_false_iff_not, Bool.not_eq_false', Int.not_lt, Int.not_le, Int.toNat_natCast, Bool.and_eq_true, Bool.or_eq_true, Bool.and_eq_false_iff, Bool.or_eq_false_iff] at hs5
            refine RL.q (QV.vN T rfl rfl rfl rfl rfl (by exact (rfl : _ = [_, _, _, _, _, _, _, _, _, _, _, _, _, _, _, _]))) ?_
            refine RL.q (QV.vN T rfl rfl rfl rfl rfl (by exact (rfl : _ = [_, _, _, _, _, _, _, _, _, _, _, _, _, _, _, _]))) ?_
            refine RL.c fun19 (fun hs => esame (openE (wrapR 1 2 3 (putE x).1)) p5 l5 q5 (by repeat first | exact hq5 | apply Rd.cons | apply Rd.app) hl5 (by omega) x sa n c (hR _) hn (by omega)) ?_
            rintro _ _ ⟨rfl, e⟩; obtain rfl := e.symm
            refine RL.p T ?_
            exact hj
           ·repeat first | exact Mx.refl | exact Mx.mix | refine Mx.put rfl ?_ | refine Mx.upd rfl ?_ | refine Mx.updl rfl ?_ | refine Mx.fin rfl ?_ | refine Mx.inner rfl ?_ | refine Mx.none ?_
           refine RL.or ?_
           refine RL.nil _ _ _ _ ?_
           refine hK13 _ _ _ ?_
           refine SW.cs (fun hc3 => ?_) (fun hc3 => ?_)
           ·skip
            first
             | (exfalso; clear hK13 K13; clear hK12 K12; clear hK11 K11; clear hK10 K10; clear hK9 K9; clear hK8 K8; clear hK7 K7; clear hK5 K5; clear hK4 K4; clear hK2 K2; clear hK1 K1; clear hK0 K0; first | omega | contradiction | (simp at *; done) | (simp_all; done))
             | (
              refine SW.seq_k fun K14 hK14 => ?_
              refine SW.region _ _ _ _ ?_
              refine RL.p T ?_
              refine RL.nil _ _ _ _ ?_
              refine hK14 _ _ _ ?_
              refine SW.ret ?_
              refine retQ.rr (H) ?_
              clear hK14 K14 hK13 K13 hK12 K12 hK11 K11 hK10 K10 hK9 K9 hK8 K8 hK7 K7 hK5 K5 hK4 K4 hK2 K2 hK1 K1 hK0 K0
              first
                | exact ⟨rfl, rfl⟩
                | (exfalso; simp_all; done)
              )
           ·skip
            first
             | (exfalso; clear hK13 K13; clear hK12 K12; clear hK11 K11; clear hK10 K10; clear hK9 K9; clear hK8 K8; clear hK7 K7; clear hK5 K5; clear hK4 K4; clear hK2 K2; clear hK1 K1; clear hK0 K0; first | omega | contradiction | (simp at *; done) | (simp_all; done))
             | (
              refine SW.skip ?_
              exact hK7 _ _ (by repeat first | exact Mx.refl | exact Mx.mix | refine Mx.put rfl ?_ | refine Mx.upd rfl ?_ | refine Mx.updl rfl ?_ | refine Mx.fin rfl ?_ | refine Mx.inner rfl ?_ | refine Mx.none ?_) (by intro w hw; first | exact hw | exact Sat.sub (by repeat first | exact List.Sublist.refl _ | apply List.Sublist.cons_cons | apply List.Sublist.cons | exact List.sublist_append_right _ _ | refine List.Sublist.trans ?_ (List.sublist_append_right _ _)) hw)
              )
           )
        ·skip
         first
          | (exfalso; clear hK9 K9; clear hK8 K8; clear hK7 K7; clear hK5 K5; clear hK4 K4; clear hK2 K2; clear hK1 K1; clear hK0 K0; first | omega | contradiction | (simp at *; done) | (simp_all; done))
          | (
           refine SW.skip ?_
           exact hK7 _ _ (by repeat first | exact Mx.refl | exact Mx.mix | refine Mx.put rfl ?_ | refine Mx.upd rfl ?_ | refine Mx.updl rfl ?_ | refine Mx.fin rfl ?_ | refine Mx.inner rfl ?_ | refine Mx.none ?_) (by intro w hw; first | exact hw | exact Sat.sub (by repeat first | exact List.Sublist.refl _ | apply List.Sublist.cons_cons | apply List.Sublist.cons | exact List.sublist_append_right _ _ | refine List.Sublist.trans ?_ (List.sublist_append_right _ _)) hw)
           )
       ·skip
        refine SW.seq_join [6, 17, 18, 19, 20, 21, 22, 23, 24, 25, 26, 98, 99, 100, 101, 102, 103, 104, 105, 106, 107, 108, 109, 110, 111, 112, 113, 114, 115, 116, 117, 118, 119, 120, 121, 122, 123, 124, 125, 126, 127, 128, 129, 130, 131, 132, 133, 134, 135, 136, 137, 138, 139, 140, 141, 142, 143] ((.var b4_1 25 (FC f sc m d) :: .var b3_0 38 (EC x sa n c) :: H)) (fun K15 hK15 => ?_) (fun frU15 => ?_)
        ·skip
         refine SW.seq_k fun K16 hK16 => ?_
         have hqb := putO_byte hf
         have hql := putO_len f
         refine SW.region _ _ _ _ ?_
         refine RL.q (QV.vN T rfl rfl rfl rfl rfl (by exact (rfl : _ = [_, _, _, _, _, _, _, _, _, _, _]))) ?_
         refine RL.c fun9 (fun hs => putold f sc m d (hS _) hnm hmm hf) ?_
         rintro _ _ ⟨a1, c1, rfl, e⟩; obtain rfl := e.symm
         refine RL.p T ?_
         refine RL.p T ?_
         refine RL.p T ?_
         refine RL.p T ?_
         refine RL.p T ?_
         refine RL.nil _ _ _ _ ?_
         refine hK16 _ _ _ ?_
         refine SW.seq_k fun K17 hK17 => ?_
         refine SW.region _ _ _ _ ?_
         refine RL.p T ?_
         refine RL.p T ?_
         refine RL.nil _ _ _ _ ?_
         refine hK17 _ _ _ ?_
         refine SW.cs (fun hc4 => ?_) (fun hc4 => ?_)
         ·skip
          first
           | (exfalso; clear hK17 K17; clear hK16 K16; clear hK15 K15; clear hK5 K5; clear hK4 K4; clear hK2 K2; clear hK1 K1; clear hK0 K0; first | omega | contradiction | (simp at *; done) | (simp_all; done))
           | (
            refine SW.seq_k fun K18 hK18 => ?_
            obtain ⟨k1, k2, k3, k4, k5⟩ := back6 hf (by omega)
            have hgl := oldR_len (putO f).1
            have hwl := wrapR_len 1 2 6 (putO f).1
            have hwo : FrOk (wrapR 1 2 6 (putO f).1) := wrapR_ok (by omega) (by omega) (by omega) hqb
            have hol := open_len (wrapR 1 2 6 (putO f).1)
            refine SW.region _ _ _ _ ?_
            refine RL.p T ?_
            refine RL.c fun11 (fun hs => getold a1 _ c1 (putO f).1 (Rd.rowh hs (by repeat first | exact At.head _ _ | apply At.tail | apply At.app)) rfl (by omega) hqb) ?_
            rintro _ _ ⟨a2, n2, c2, G2, rfl, hn2, hr2, e⟩; obtain rfl := e.symm
            refine RL.p T ?_
            refine RL.p T ?_
            refine RL.p T ?_
            refine RL.s ?_
            refine NV.alloc T rfl rfl rfl (by exact (rfl : _ = [_, _, _, _, _, _, _, _, _, _, _])) ?_
            intro b19_6
            refine RL.s ?_
            refine NV.sN T rfl rfl rfl (by exact (rfl : _ = [_, _, _, _, _, _, _, _, _, _, _])) (by exact (rfl : _ = [_, _, _, _, _, _, _, _, _, _, _])) ?_
            refine RL.p T ?_
            refine RL.nil _ _ _ _ ?_
            refine hK18 _ _ _ ?_
            refine SW.seq_k fun K19 hK19 => ?_
            refine SW.region _ _ _ _ ?_
            refine RL.p T ?_
            refine RL.c fun20 (fun hs => wrap 1 2 6 (by omega) (by omega) (by omega) a1 _ c1 (putO f).1 (Rd.rowh hs (by repeat first | exact At.head _ _ | apply At.tail | apply At.app)) rfl (by omega) hqb) ?_
            rintro _ _ ⟨a3, n3, c3, G3, rfl, hn3, hr3, e⟩; obtain rfl := e.symm
            refine RL.p T ?_
            refine RL.p T ?_
            refine RL.p T ?_
            refine RL.s ?_
            refine NV.alloc T rfl rfl rfl (by exact (rfl : _ = [_, _, _, _, _, _, _, _, _, _, _])) ?_
            intro b21_7
            refine RL.s ?_
            refine NV.sN T rfl rfl rfl (by exact (rfl : _ = [_, _, _, _, _, _, _, _, _, _, _])) (by exact (rfl : _ = [_, _, _, _, _, _, _, _, _, _, _])) ?_
            refine RL.p T ?_
            refine RL.nil _ _ _ _ ?_
            refine hK19 _ _ _ ?_
            refine SW.seq_k fun K20 hK20 => ?_
            refine SW.region _ _ _ _ ?_
            refine RL.q (QV.vN T rfl rfl rfl rfl rfl (by exact (rfl : _ = [_, _, _, _, _, _, _, _, _, _, _]))) ?_
            refine RL.c fun22 (fun hs => openC (wrapR 1 2 6 (putO f).1) a3 n3 c3 (by repeat first | exact hr3.appr | apply Rd.cons | apply Rd.app) hn3 (by omega) hwo) ?_
            rintro _ _ ⟨p5, l5, q5, p6, l6, q6, p7, l7, q7, G5, rfl, hl5, hl6, hl7, hq5, hq6, hq7, e⟩; obtain rfl := e.symm
            refine RL.p T ?_
            refine RL.p T ?_
            refine RL.p T ?_
            refine RL.p T ?_
            refine RL.p T ?_
            refine RL.s ?_
            refine NV.alloc T rfl rfl rfl (by exact (rfl : _ = [_, _, _, _, _, _, _, _, _, _, _, _, _, _, _, _])) ?_
            intro b23_8
            refine RL.s ?_
            refine NV.alloc T rfl rfl rfl (by exact (rfl : _ = [_, _, _, _, _, _, _, _, _, _, _])) ?_
            intro b24_9
            refine RL.s ?_
            refine NV.sN T rfl rfl rfl (by exact (rfl : _ = [_, _, _, _, _, _, _, _, _, _, _, _, _, _, _, _])) (by exact (rfl : _ = [_, _, _, _, _, _, _, _, _, _, _, _, _, _, _, _])) ?_
            refine RL.s ?_
            refine NV.sN T rfl rfl rfl (by exact (rfl : _ = [_, _, _, _, _, _, _, _, _, _, _])) (by exact (rfl : _ = [_, _, _, _, _, _, _, _, _, _, _])) ?_
            refine RL.p T ?_
            refine RL.p T ?_
            refine RL.nil _ _ _ _ ?_
            refine hK20 _ _ _ ?_
            refine SW.seq_k fun K21 hK21 => ?_
            refine SW.region _ _ _ _ ?_
            refine RL.p T ?_
            refine RL.p T ?_
            refine RL.p T ?_
            refine RL.join (fr1 := ?_) 4 124 false [125, 126, 127, 128] (fun hs6 hj => ?_) ?_ ?_
            rotate_left
            ·have hs6j := hs6
             try simp only [decide_eq_true_eq, Bool.not_eq_true', decide_eq_false_iff_not, Bool.not_eq_false', Int.not_lt, Int.not_le, Int.toNat_natCast, Bool.and_eq_true, Bool.or_eq_true, Bool.and_eq_false_iff, Bool.or_eq_false_iff] at hs6
             refine RL.q (QV.vN T rfl rfl rfl rfl rfl (by exact (rfl : _ = [_, _, _, _, _, _, _, _, _, _, _]))) ?_
             refine RL.q (QV.vN T rfl rfl rfl rfl rfl (by exact (rfl : _ = [_, _, _, _, _, _, _, _, _, _, _]))) ?_
             refine RL.c fun24 (fun hs => fsame (oldR (putO f).1) a2 n2 c2 (by repeat first | exact hr2.appr | apply Rd.cons | apply Rd.app) hn2 (by omega) (oldR_ok hqb) f sc m d (hS _) hnm hmm hf) ?_
             rintro _ _ ⟨rfl, e⟩; obtain rfl := e.symm
             refine RL.p T ?_
             exact hj
            ·repeat first | exact Mx.refl | exact Mx.mix | refine Mx.put rfl ?_ | refine Mx.upd rfl ?_ | refine Mx.updl rfl ?_ | refine Mx.fin rfl ?_ | refine Mx.inner rfl ?_ | refine Mx.none ?_
            refine RL.or ?_
            refine RL.p T ?_
            refine RL.join (fr1 := ?_) 2 130 false [131, 132] (fun hs7 hj => ?_) ?_ ?_
            rotate_left
            ·have hs7j := hs7
             try simp only [decide_eq_true_eq, Bool.not_eq_true', decide_eq_false_iff_not, Bool.not_eq_false', Int.not_lt, Int.not_le, Int.toNat_natCast, Bool.and_eq_true, Bool.or_eq_true, Bool.and_eq_false_iff, Bool.or_eq_false_iff] at hs7
             refine RL.p T ?_
             refine RL.p T ?_
             exact hj
            ·repeat first | exact Mx.refl | exact Mx.mix | refine Mx.put rfl ?_ | refine Mx.upd rfl ?_ | refine Mx.updl rfl ?_ | refine Mx.fin rfl ?_ | refine Mx.inner rfl ?_ | refine Mx.none ?_
            refine RL.or ?_
            refine RL.p T ?_
            refine RL.join (fr1 := ?_) 2 134 false [135, 136] (fun hs8 hj => ?_) ?_ ?_
            rotate_left
            ·have hs8j := hs8
             try simp only [decide_eq_true_eq, Bool.not_eq_true', decide_eq_false_iff_not, Bool.not_eq_false', Int.not_lt, Int.not_le, Int.toNat_natCast, Bool.and_eq_true, Bool.or_eq_true, Bool.and_eq_false_iff, Bool.or_eq_false_iff] at hs8
             refine RL.p T ?_
             refine RL.p T ?_
             exact hj
            ·repeat first | exact Mx.refl | exact Mx.mix | refine Mx.put rfl ?_ | refine Mx.upd rfl ?_ | refine Mx.updl rfl ?_ | refine Mx.fin rfl ?_ | refine Mx.inner rfl ?_ | refine Mx.none ?_
            refine RL.or ?_
            refine RL.p T ?_
            refine RL.join (fr1 := ?_) 4 138 false [139, 140, 141, 142] (fun hs9 hj => ?_) ?_ ?_
            rotate_left
            ·have hs9j := hs9
             try simp only [decide_eq_true_eq, Bool.not_eq_true', decide_eq_false_iff_not, Bool.not_eq_false', Int.not_lt, Int.not_le, Int.toNat_natCast, Bool.and_eq_true, Bool.or_eq_true, Bool.and_eq_false_iff, Bool.or_eq_false_iff] at hs9
             refine RL.q (QV.vN T rfl rfl rfl rfl rfl (by exact (rfl : _ = [_, _, _, _, _, _, _, _, _, _, _]))) ?_
             refine RL.q (QV.vN T rfl rfl rfl rfl rfl (by exact (rfl : _ = [_, _, _, _, _, _, _, _, _, _, _]))) ?_
             refine RL.c fun24 (fun hs => fsame (openO (wrapR 1 2 6 (putO f).1)) p6 l6 q6 (by repeat first | exact hq6 | apply Rd.cons | apply Rd.app) hl6 (by omega) (openO_ok hwo.data) f sc m d (hS _) hnm hmm hf) ?_
             rintro _ _ ⟨rfl, e⟩; obtain rfl := e.symm
             refine RL.p T ?_
             exact hj
            ·repeat first | exact Mx.refl | exact Mx.mix | refine Mx.put rfl ?_ | refine Mx.upd rfl ?_ | refine Mx.updl rfl ?_ | refine Mx.fin rfl ?_ | refine Mx.inner rfl ?_ | refine Mx.none ?_
            refine RL.or ?_
            refine RL.nil _ _ _ _ ?_
            refine hK21 _ _ _ ?_
            refine SW.cs (fun hc5 => ?_) (fun hc5 => ?_)
            ·skip
             first
              | (exfalso; clear hK21 K21; clear hK20 K20; clear hK19 K19; clear hK18 K18; clear hK17 K17; clear hK16 K16; clear hK15 K15; clear hK5 K5; clear hK4 K4; clear hK2 K2; clear hK1 K1; clear hK0 K0; first | omega | contradiction | (simp at *; done) | (simp_all; done))
              | (
               refine SW.seq_k fun K22 hK22 => ?_
               refine SW.region _ _ _ _ ?_
               refine RL.p T ?_
               refine RL.nil _ _ _ _ ?_
               refine hK22 _ _ _ ?_
               refine SW.ret ?_
               refine retQ.rr (H) ?_
               clear hK22 K22 hK21 K21 hK20 K20 hK19 K19 hK18 K18 hK17 K17 hK16 K16 hK15 K15 hK5 K5 hK4 K4 hK2 K2 hK1 K1 hK0 K0
               first
                 | exact ⟨rfl, rfl⟩
                 | (exfalso; simp_all; done)
               )
            ·skip
             first
              | (exfalso; clear hK21 K21; clear hK20 K20; clear hK19 K19; clear hK18 K18; clear hK17 K17; clear hK16 K16; clear hK15 K15; clear hK5 K5; clear hK4 K4; clear hK2 K2; clear hK1 K1; clear hK0 K0; first | omega | contradiction | (simp at *; done) | (simp_all; done))
              | (
               refine SW.skip ?_
               exact hK15 _ _ (by repeat first | exact Mx.refl | exact Mx.mix | refine Mx.put rfl ?_ | refine Mx.upd rfl ?_ | refine Mx.updl rfl ?_ | refine Mx.fin rfl ?_ | refine Mx.inner rfl ?_ | refine Mx.none ?_) (by intro w hw; first | exact hw | exact Sat.sub (by repeat first | exact List.Sublist.refl _ | apply List.Sublist.cons_cons | apply List.Sublist.cons | exact List.sublist_append_right _ _ | refine List.Sublist.trans ?_ (List.sublist_append_right _ _)) hw)
               )
            )
         ·skip
          first
           | (exfalso; clear hK17 K17; clear hK16 K16; clear hK15 K15; clear hK5 K5; clear hK4 K4; clear hK2 K2; clear hK1 K1; clear hK0 K0; first | omega | contradiction | (simp at *; done) | (simp_all; done))
           | (
            refine SW.skip ?_
            exact hK15 _ _ (by repeat first | exact Mx.refl | exact Mx.mix | refine Mx.put rfl ?_ | refine Mx.upd rfl ?_ | refine Mx.updl rfl ?_ | refine Mx.fin rfl ?_ | refine Mx.inner rfl ?_ | refine Mx.none ?_) (by intro w hw; first | exact hw | exact Sat.sub (by repeat first | exact List.Sublist.refl _ | apply List.Sublist.cons_cons | apply List.Sublist.cons | exact List.sublist_append_right _ _ | refine List.Sublist.trans ?_ (List.sublist_append_right _ _)) hw)
            )
        ·skip
         refine SW.seq_join [6, 27, 28, 29, 30, 144, 145, 146, 147, 148, 149, 150, 151, 152, 153, 154, 155, 156, 157, 158, 159, 160, 161, 162, 163] ((.var b4_1 25 (FC f sc m d) :: .var b3_0 38 (EC x sa n c) :: H)) (fun K23 hK23 => ?_) (fun frU23 => ?_)
         ·skip
          refine SW.seq_k fun K24 hK24 => ?_
          have hgl := getEr_len esb
          have hgo := getEr_ok hB
          refine SW.region _ _ _ _ ?_
          refine RL.p T ?_
          refine RL.c fun17 (fun hs => geteth sab nb cb esb (hRb _) hnb hmb hB) ?_
          rintro _ _ ⟨a2, n2, c2, G2, rfl, hn2, hr2, e⟩; obtain rfl := e.symm
          refine RL.p T ?_
          refine RL.p T ?_
          refine RL.p T ?_
          refine RL.s ?_
          refine NV.alloc T rfl rfl rfl (by exact (rfl : _ = [_, _, _, _, _, _, _, _, _, _, _, _, _, _, _, _])) ?_
          intro b27_10
          refine RL.s ?_
          refine NV.sN T rfl rfl rfl (by exact (rfl : _ = [_, _, _, _, _, _, _, _, _, _, _, _, _, _, _, _])) (by exact (rfl : _ = [_, _, _, _, _, _, _, _, _, _, _, _, _, _, _, _])) ?_
          refine RL.p T ?_
          refine RL.nil _ _ _ _ ?_
          refine hK24 _ _ _ ?_
          refine SW.seq_k fun K25 hK25 => ?_
          refine SW.region _ _ _ _ ?_
          refine RL.p T ?_
          refine RL.p T ?_
          refine RL.nil _ _ _ _ ?_
          refine hK25 _ _ _ ?_
          refine SW.cs (fun hc6 => ?_) (fun hc6 => ?_)
          ·skip
           first
            | (exfalso; clear hK25 K25; clear hK24 K24; clear hK23 K23; clear hK5 K5; clear hK4 K4; clear hK2 K2; clear hK1 K1; clear hK0 K0; first | omega | contradiction | (simp at *; done) | (simp_all; done))
            | (
             refine SW.seq_k fun K26 hK26 => ?_
             have hpe := eth_put hB (by omega)
             refine SW.region _ _ _ _ ?_
             refine RL.q (QV.vN T rfl rfl rfl rfl rfl (by exact (rfl : _ = [_, _, _, _, _, _, _, _, _, _, _, _, _, _, _, _]))) ?_
             refine RL.c fun15 (fun hs => (puteth (getEr esb) a2 n2 c2 (by repeat first | exact hr2.appr | apply Rd.cons | apply Rd.app) hn2 (by omega) hgo).mono (fun v H' hh => by rw [hpe] at hh; exact hh)) ?_
             rintro _ _ ⟨a3, c3, rfl, e⟩; obtain rfl := e.symm
             refine RL.p T ?_
             refine RL.p T ?_
             refine RL.p T ?_
             refine RL.p T ?_
             refine RL.p T ?_
             refine RL.nil _ _ _ _ ?_
             refine hK26 _ _ _ ?_
             refine SW.seq_k fun K27 hK27 => ?_
             refine SW.region _ _ _ _ ?_
             refine RL.p T ?_
             refine RL.p T ?_
             refine RL.p T ?_
             refine RL.join (fr1 := ?_) 4 158 false [159, 160, 161, 162] (fun hs10 hj => ?_) ?_ ?_
             rotate_left
             ·have hs10j := hs10
              try simp only [decide_eq_true_eq, Bool.not_eq_true', decide_eq_false_iff_not, Bool.not_eq_false', Int.not_lt, Int.not_le, Int.toNat_natCast, Bool.and_eq_true, Bool.or_eq_true, Bool.and_eq_false_iff, Bool.or_eq_false_iff] at hs10
              refine RL.p T ?_
              refine RL.p T ?_
              refine RL.c fun13 (fun hs => same a3 sab _ c3 nb cb esb esb (Rd.rowh hs (by repeat first | exact At.head _ _ | apply At.tail | apply At.app)) (hRb _) rfl hnb (by omega) hmb) ?_
              rintro _ _ ⟨rfl, e⟩; obtain rfl := e.symm
              refine RL.p T ?_
              exact hj
             ·repeat first | exact Mx.refl | exact Mx.mix | refine Mx.put rfl ?_ | refine Mx.upd rfl ?_ | refine Mx.updl rfl ?_ | refine Mx.fin rfl ?_ | refine Mx.inner rfl ?_ | refine Mx.none ?_
             refine RL.or ?_
             refine RL.nil _ _ _ _ ?_
             refine hK27 _ _ _ ?_
             refine SW.cs (fun hc7 => ?_) (fun hc7 => ?_)
             ·skip
              first
               | (exfalso; clear hK27 K27; clear hK26 K26; clear hK25 K25; clear hK24 K24; clear hK23 K23; clear hK5 K5; clear hK4 K4; clear hK2 K2; clear hK1 K1; clear hK0 K0; first | omega | contradiction | (simp at *; done) | (simp_all; done))
               | (
                refine SW.seq_k fun K28 hK28 => ?_
                refine SW.region _ _ _ _ ?_
                refine RL.p T ?_
                refine RL.nil _ _ _ _ ?_
                refine hK28 _ _ _ ?_
                refine SW.ret ?_
                refine retQ.rr (H) ?_
                clear hK28 K28 hK27 K27 hK26 K26 hK25 K25 hK24 K24 hK23 K23 hK5 K5 hK4 K4 hK2 K2 hK1 K1 hK0 K0
                first
                  | exact ⟨rfl, rfl⟩
                  | (exfalso; simp_all; done)
                )
             ·skip
              first
               | (exfalso; clear hK27 K27; clear hK26 K26; clear hK25 K25; clear hK24 K24; clear hK23 K23; clear hK5 K5; clear hK4 K4; clear hK2 K2; clear hK1 K1; clear hK0 K0; first | omega | contradiction | (simp at *; done) | (simp_all; done))
               | (
                refine SW.skip ?_
                exact hK23 _ _ (by repeat first | exact Mx.refl | exact Mx.mix | refine Mx.put rfl ?_ | refine Mx.upd rfl ?_ | refine Mx.updl rfl ?_ | refine Mx.fin rfl ?_ | refine Mx.inner rfl ?_ | refine Mx.none ?_) (by intro w hw; first | exact hw | exact Sat.sub (by repeat first | exact List.Sublist.refl _ | apply List.Sublist.cons_cons | apply List.Sublist.cons | exact List.sublist_append_right _ _ | refine List.Sublist.trans ?_ (List.sublist_append_right _ _)) hw)
                )
             )
          ·skip
           first
            | (exfalso; clear hK25 K25; clear hK24 K24; clear hK23 K23; clear hK5 K5; clear hK4 K4; clear hK2 K2; clear hK1 K1; clear hK0 K0; first | omega | contradiction | (simp at *; done) | (simp_all; done))
            | (
             refine SW.skip ?_
             exact hK23 _ _ (by repeat first | exact Mx.refl | exact Mx.mix | refine Mx.put rfl ?_ | refine Mx.upd rfl ?_ | refine Mx.updl rfl ?_ | refine Mx.fin rfl ?_ | refine Mx.inner rfl ?_ | refine Mx.none ?_) (by intro w hw; first | exact hw | exact Sat.sub (by repeat first | exact List.Sublist.refl _ | apply List.Sublist.cons_cons | apply List.Sublist.cons | exact List.sublist_append_right _ _ | refine List.Sublist.trans ?_ (List.sublist_append_right _ _)) hw)
             )
         ·skip
          refine SW.seq_join [6, 31, 32, 33, 34, 164, 165, 166, 167, 168, 169, 170, 171, 172, 173, 174, 175, 176, 177, 178, 179, 180, 181, 182, 183] (H) (fun K29 hK29 => ?_) (fun frU29 => ?_)
          ·skip
           refine SW.seq_k fun K30 hK30 => ?_
           have hgl := oldR_len esb
           have hgo := oldR_ok hB
           refine SW.region _ _ _ _ ?_
           refine RL.p T ?_
           refine RL.c fun11 (fun hs => getold sab nb cb esb (hRb _) hnb hmb hB) ?_
           rintro _ _ ⟨a2, n2, c2, G2, rfl, hn2, hr2, e⟩; obtain rfl := e.symm
           refine RL.p T ?_
           refine RL.p T ?_
           refine RL.p T ?_
           refine RL.s ?_
           refine NV.alloc T rfl rfl rfl (by exact (rfl : _ = [_, _, _, _, _, _, _, _, _, _, _])) ?_
           intro b31_11
           refine RL.s ?_
           refine NV.sN T rfl rfl rfl (by exact (rfl : _ = [_, _, _, _, _, _, _, _, _, _, _])) (by exact (rfl : _ = [_, _, _, _, _, _, _, _, _, _, _])) ?_
           refine RL.p T ?_
           refine RL.nil _ _ _ _ ?_
           refine hK30 _ _ _ ?_
           refine SW.seq_k fun K31 hK31 => ?_
           refine SW.region _ _ _ _ ?_
           refine RL.p T ?_
           refine RL.p T ?_
           refine RL.nil _ _ _ _ ?_
           refine hK31 _ _ _ ?_
           refine SW.cs (fun hc8 => ?_) (fun hc8 => ?_)
           ·skip
            first
             | (exfalso; clear hK31 K31; clear hK30 K30; clear hK29 K29; clear hK5 K5; clear hK4 K4; clear hK2 K2; clear hK1 K1; clear hK0 K0; first | omega | contradiction | (simp at *; done) | (simp_all; done))
             | (
              refine SW.seq_k fun K32 hK32 => ?_
              have hpe := (old_put hB (by omega)).2.2
              refine SW.region _ _ _ _ ?_
              refine RL.q (QV.vN T rfl rfl rfl rfl rfl (by exact (rfl : _ = [_, _, _, _, _, _, _, _, _, _, _]))) ?_
              refine RL.c fun9 (fun hs => (putold (oldR esb) a2 n2 c2 (by repeat first | exact hr2.appr | apply Rd.cons | apply Rd.app) hn2 (by omega) hgo).mono (fun v H' hh => by rw [hpe] at hh; exact hh)) ?_
              rintro _ _ ⟨a3, c3, rfl, e⟩; obtain rfl := e.symm
              refine RL.p T ?_
              refine RL.p T ?_
              refine RL.p T ?_
              refine RL.p T ?_
              refine RL.p T ?_
              refine RL.nil _ _ _ _ ?_
              refine hK32 _ _ _ ?_
              refine SW.seq_k fun K33 hK33 => ?_
              refine SW.region _ _ _ _ ?_
              refine RL.p T ?_
              refine RL.p T ?_
              refine RL.p T ?_
              refine RL.join (fr1 := ?_) 4 178 false [179, 180, 181, 182] (fun hs11 hj => ?_) ?_ ?_
              rotate_left
              ·have hs11j := hs11
               try simp only [decide_eq_true_eq, Bool.not_eq_true', decide_eq_false_iff_not, Bool.not_eq_false', Int.not_lt, Int.not_le, Int.toNat_natCast, Bool.and_eq_true, Bool.or_eq_true, Bool.and_eq_false_iff, Bool.or_eq_false_iff] at hs11
               refine RL.p T ?_
               refine RL.p T ?_
               refine RL.c fun13 (fun hs => same a3 sab _ c3 nb cb esb esb (Rd.rowh hs (by repeat first | exact At.head _ _ | apply At.tail | apply At.app)) (hRb _) rfl hnb (by omega) hmb) ?_
               rintro _ _ ⟨rfl, e⟩; obtain rfl := e.symm
               refine RL.p T ?_
               exact hj
              ·repeat first | exact Mx.refl | exact Mx.mix | refine Mx.put rfl ?_ | refine Mx.upd rfl ?_ | refine Mx.updl rfl ?_ | refine Mx.fin rfl ?_ | refine Mx.inner rfl ?_ | refine Mx.none ?_
              refine RL.or ?_
              refine RL.nil _ _ _ _ ?_
              refine hK33 _ _ _ ?_
              refine SW.cs (fun hc9 => ?_) (fun hc9 => ?_)
              ·skip
               first
                | (exfalso; clear hK33 K33; clear hK32 K32; clear hK31 K31; clear hK30 K30; clear hK29 K29; clear hK5 K5; clear hK4 K4; clear hK2 K2; clear hK1 K1; clear hK0 K0; first | omega | contradiction | (simp at *; done) | (simp_all; done))
                | (
                 refine SW.seq_k fun K34 hK34 => ?_
                 refine SW.region _ _ _ _ ?_
                 refine RL.p T ?_
                 refine RL.nil _ _ _ _ ?_
                 refine hK34 _ _ _ ?_
                 refine SW.ret ?_
                 refine retQ.rr (H) ?_
                 clear hK34 K34 hK33 K33 hK32 K32 hK31 K31 hK30 K30 hK29 K29 hK5 K5 hK4 K4 hK2 K2 hK1 K1 hK0 K0
                 first
                   | exact ⟨rfl, rfl⟩
                   | (exfalso; simp_all; done)
                 )
              ·skip
               first
                | (exfalso; clear hK33 K33; clear hK32 K32; clear hK31 K31; clear hK30 K30; clear hK29 K29; clear hK5 K5; clear hK4 K4; clear hK2 K2; clear hK1 K1; clear hK0 K0; first | omega | contradiction | (simp at *; done) | (simp_all; done))
                | (
                 refine SW.skip ?_
                 exact hK29 _ _ (by repeat first | exact Mx.refl | exact Mx.mix | refine Mx.put rfl ?_ | refine Mx.upd rfl ?_ | refine Mx.updl rfl ?_ | refine Mx.fin rfl ?_ | refine Mx.inner rfl ?_ | refine Mx.none ?_) (by intro w hw; first | exact hw | exact Sat.sub (by repeat first | exact List.Sublist.refl _ | apply List.Sublist.cons_cons | apply List.Sublist.cons | exact List.sublist_append_right _ _ | refine List.Sublist.trans ?_ (List.sublist_append_right _ _)) hw)
                 )
              )
           ·skip
            first
             | (exfalso; clear hK31 K31; clear hK30 K30; clear hK29 K29; clear hK5 K5; clear hK4 K4; clear hK2 K2; clear hK1 K1; clear hK0 K0; first | omega | contradiction | (simp at *; done) | (simp_all; done))
             | (
              refine SW.skip ?_
              exact hK29 _ _ (by repeat first | exact Mx.refl | exact Mx.mix | refine Mx.put rfl ?_ | refine Mx.upd rfl ?_ | refine Mx.updl rfl ?_ | refine Mx.fin rfl ?_ | refine Mx.inner rfl ?_ | refine Mx.none ?_) (by intro w hw; first | exact hw | exact Sat.sub (by repeat first | exact List.Sublist.refl _ | apply List.Sublist.cons_cons | apply List.Sublist.cons | exact List.sublist_append_right _ _ | refine List.Sublist.trans ?_ (List.sublist_append_right _ _)) hw)
              )
          ·skip
           refine SW.seq_k fun K35 hK35 => ?_
           refine SW.region _ _ _ _ ?_
           refine RL.p T ?_
           refine RL.nil _ _ _ _ ?_
           refine hK35 _ _ _ ?_
           refine SW.ret ?_
           refine retQ.rr (H) ?_
           clear hK35 K35 hK5 K5 hK4 K4 hK2 K2 hK1 K1 hK0 K0
           first
             | exact ⟨rfl, rfl⟩
             | (exfalso; simp_all; done)
       )
    )
end Go.Proofs.Ytecgicpimgghaaa.M
