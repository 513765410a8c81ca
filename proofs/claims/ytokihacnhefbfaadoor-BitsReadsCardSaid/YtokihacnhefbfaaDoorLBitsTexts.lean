import Derived.Test.YtokihacnhefbfaaDoorProg
import Derived.Test.YtokihacnhefbfaaDoorFG1E
import Derived.Test.YtokihacnhefbfaaDoorS25
import Derived.Test.YtokihacnhefbfaaDoorS32
import Derived.Test.YtokihacnhefbfaaDoorP1c
set_option linter.unusedVariables false
set_option linter.unusedSimpArgs false
namespace Go.Proofs.YtokihacnhefbfaaDoor.M
open Go Go.Sep Go.Proofs
set_option maxRecDepth 10000
set_option maxHeartbeats 2000000
theorem fun7 : Fun Tryd.prog 7 := Fun.mk Tryd.func7 (by kernel_rfl) (by kernel_rfl)
theorem fun8 : Fun Tryd.prog 8 := Fun.mk Tryd.func8 (by kernel_rfl) (by kernel_rfl)
theorem fun9 : Fun Tryd.prog 9 := Fun.mk Tryd.func9 (by kernel_rfl) (by kernel_rfl)
theorem bitsTexts {w0 : World} {H : List Chunk} (sa : Option Addr) (n c : Nat) (es : List Int) (hR : ∀ H, Rd w0 H sa n c 1 (es.map (.int .u8))) (hn : n = es.length) (hm : n ≤ 140737488351232) (hb : Byte es) (fs : List Int) (hb2 : Byte fs) (mx : Int) (hml : w0.cell? ⟨0, 0, none⟩ = some (.int .i64 mx)) : SC Tryd.prog w0 3 #[.slice sa n c, .string (strI fs)] H (fun v H' => v = .bool true ∧ H' = H) := by
 refine SC.enter Tryd.func3 rfl (Nat.le_of_ble_eq_true rfl) ?_
 refine SW.seq_k fun K0 hK0 => ?_
 have hsz := strI_size fs
 have hrl : (readS fs).1.length ≤ fs.length := by
   unfold readS
   split
   · exact Nat.le_trans (Nat.le_of_eq (List.length_map _)) (flt_len fs)
   · exact Nat.zero_le _
 refine SW.region _ _ _ _ ?_
 refine RL.p T ?_
 refine RL.nil _ _ _ _ ?_
 refine hK0 _ _ _ ?_
 refine SW.seq_k fun K1 hK1 => ?_
 refine SW.seq_k fun K2 hK2 => ?_
 refine SW.region _ _ _ _ ?_
 refine RL.c fun5 (fun hs => alive) ?_
 rintro _ _ ⟨rfl, e⟩; obtain rfl := e.symm
 refine RL.p T ?_
 refine RL.nil _ _ _ _ ?_
 refine hK2 _ _ _ ?_
 refine SW.cs (fun hc0 => ?_) (fun hc0 => ?_)
 ·skip
  first
   | (exfalso; first | omega | contradiction | (clear hK2 K2; clear hK1 K1; clear hK0 K0; simp at *; done))
   | (
    refine SW.seq_k fun K3 hK3 => ?_
    refine SW.region _ _ _ _ ?_
    refine RL.p T ?_
    refine RL.nil _ _ _ _ ?_
    refine hK3 _ _ _ ?_
    refine SW.ret ?_
    refine retQ.rr (H) ?_
    clear hK3 K3 hK2 K2 hK1 K1 hK0 K0
    first | exact ⟨rfl, rfl⟩ | (refine ⟨boolE ?_, rfl⟩; simp; done)
    )
 ·skip
  first
   | (exfalso; first | omega | contradiction | (clear hK2 K2; clear hK1 K1; clear hK0 K0; simp at *; done))
   | (
    refine SW.skip ?_
    refine hK1 _ _ _ ?_
    refine SW.seq_k fun K4 hK4 => ?_
    refine SW.seq_k fun K5 hK5 => ?_
    refine SW.region _ _ _ _ ?_
    refine RL.p T ?_
    refine RL.p T ?_
    refine RL.p T ?_
    refine RL.p T ?_
    refine RL.join (fr1 := ?_) 3 18 false [19, 20, 21] (fun hs0 hj => ?_) ?_ ?_
    rotate_left
    ·have hs0j := hs0
     try simp only [decide_eq_true_eq, Bool.not_eq_true', decide_eq_false_iff_not, Bool.not_eq_false', Int.not_lt, Int.not_le, Int.toNat_natCast, Bool.and_eq_true, Bool.or_eq_true, Bool.and_eq_false_iff, Bool.or_eq_false_iff] at hs0
     refine RL.p T ?_
     refine RL.p T ?_
     refine RL.p T ?_
     exact hj
    ·repeat first | with_reducible exact Mx.refl | with_reducible exact Mx.mix | refine Mx.put rfl ?_ | refine Mx.upd rfl ?_ | refine Mx.updl rfl ?_ | refine Mx.fin rfl ?_ | refine Mx.inner rfl ?_ | refine Mx.none ?_ | exact Mx.refl | exact Mx.mix
    refine RL.or ?_
    refine RL.nil _ _ _ _ ?_
    refine hK5 _ _ _ ?_
    refine SW.cs (fun hc1 => ?_) (fun hc1 => ?_)
    ·skip
     first
      | (exfalso; first | omega | contradiction | (clear hK5 K5; clear hK4 K4; clear hK2 K2; clear hK1 K1; clear hK0 K0; simp at *; done))
      | (
       refine SW.seq_k fun K6 hK6 => ?_
       refine SW.region _ _ _ _ ?_
       refine RL.p T ?_
       refine RL.nil _ _ _ _ ?_
       refine hK6 _ _ _ ?_
       refine SW.ret ?_
       refine retQ.rr (H) ?_
       clear hK6 K6 hK5 K5 hK4 K4 hK2 K2 hK1 K1 hK0 K0
       first | exact ⟨rfl, rfl⟩ | (refine ⟨boolE ?_, rfl⟩; simp; done)
       )
    ·skip
     first
      | (exfalso; first | omega | contradiction | (clear hK5 K5; clear hK4 K4; clear hK2 K2; clear hK1 K1; clear hK0 K0; simp at *; done))
      | (
       refine SW.skip ?_
       refine hK4 _ _ _ ?_
       refine SW.seq_k fun K7 hK7 => ?_
       refine SW.region _ _ _ _ ?_
       refine RL.p T ?_
       refine RL.c fun6 (fun hs => textC sa n c es (hR _) hn hm hb) ?_
       rintro _ _ ⟨rfl, e⟩; obtain rfl := e.symm
       refine RL.p T ?_
       refine RL.p T ?_
       refine RL.p T ?_
       refine RL.p T ?_
       refine RL.p T ?_
       refine RL.nil _ _ _ _ ?_
       refine hK7 _ _ _ ?_
       refine SW.seq_k fun K8 hK8 => ?_
       refine SW.region _ _ _ _ ?_
       refine RL.p T ?_
       refine RL.c fun7 (fun hs => rtextC sa n c es (hR _) hn hm hb) ?_
       rintro _ _ ⟨rfl, e⟩; obtain rfl := e.symm
       refine RL.p T ?_
       refine RL.p T ?_
       refine RL.p T ?_
       refine RL.p T ?_
       refine RL.p T ?_
       refine RL.nil _ _ _ _ ?_
       refine hK8 _ _ _ ?_
       refine SW.seq_k fun K9 hK9 => ?_
       refine SW.region _ _ _ _ ?_
       refine RL.p T ?_
       refine RL.c fun8 (fun hs => readB fs hb2 (by omega) mx hml) ?_
       rintro _ _ ⟨_, rfl, a1, n1, c1, rfl, hn1, hR1, G1, e⟩; obtain rfl := e.symm
       refine RL.p T ?_
       refine RL.p T ?_
       refine RL.p T ?_
       refine RL.p T ?_
       refine RL.p T ?_
       refine RL.nil _ _ _ _ ?_
       refine hK9 _ _ _ ?_
       refine SW.seq_k fun K10 hK10 => ?_
       refine SW.region _ _ _ _ ?_
       refine RL.p T ?_
       refine RL.c fun9 (fun hs => rread fs hb2 (by omega)) ?_
       rintro _ _ ⟨_, rfl, a2, n2, c2, rfl, hn2, hR2, G2, e⟩; obtain rfl := e.symm
       refine RL.p T ?_
       refine RL.p T ?_
       refine RL.p T ?_
       refine RL.p T ?_
       refine RL.p T ?_
       refine RL.nil _ _ _ _ ?_
       refine hK10 _ _ _ ?_
       refine SW.seq_k fun K11 hK11 => ?_
       refine SW.region _ _ _ _ ?_
       refine RL.p T ?_
       refine RL.p T ?_
       refine RL.p T ?_
       refine RL.p T ?_
       refine RL.join (fr1 := ?_) 3 46 true [47, 48, 49] (fun hs1 hj => ?_) ?_ ?_
       rotate_left
       ·have hs1j := hs1
        try simp only [decide_eq_true_eq, Bool.not_eq_true', decide_eq_false_iff_not, Bool.not_eq_false', Int.not_lt, Int.not_le, Int.toNat_natCast, Bool.and_eq_true, Bool.or_eq_true, Bool.and_eq_false_iff, Bool.or_eq_false_iff] at hs1
        refine RL.p T ?_
        refine RL.p T ?_
        refine RL.p T ?_
        exact hj
       ·repeat first | with_reducible exact Mx.refl | with_reducible exact Mx.mix | refine Mx.put rfl ?_ | refine Mx.upd rfl ?_ | refine Mx.updl rfl ?_ | refine Mx.fin rfl ?_ | refine Mx.inner rfl ?_ | refine Mx.none ?_ | exact Mx.refl | exact Mx.mix
       refine RL.and ?_
       refine RL.p T ?_
       refine RL.join (fr1 := ?_) 3 51 true [52, 53, 54] (fun hs2 hj => ?_) ?_ ?_
       rotate_left
       ·have hs2j := hs2
        try simp only [decide_eq_true_eq, Bool.not_eq_true', decide_eq_false_iff_not, Bool.not_eq_false', Int.not_lt, Int.not_le, Int.toNat_natCast, Bool.and_eq_true, Bool.or_eq_true, Bool.and_eq_false_iff, Bool.or_eq_false_iff] at hs2
        refine RL.p T ?_
        refine RL.p T ?_
        refine RL.c fun10 (fun hs => (same _ _ _ _ _ _ _ _ (by repeat first | exact hR1 | apply Rd.cons | apply Rd.app) (by repeat first | exact hR2 | apply Rd.cons | apply Rd.app) hn1 hn2 (by omega) (by omega)).mono (fun v H' h => by rw [decide_eq_true rfl] at h; exact h)) ?_
        rintro _ _ ⟨rfl, e⟩; obtain rfl := e.symm
        exact hj
       ·repeat first | with_reducible exact Mx.refl | with_reducible exact Mx.mix | refine Mx.put rfl ?_ | refine Mx.upd rfl ?_ | refine Mx.updl rfl ?_ | refine Mx.fin rfl ?_ | refine Mx.inner rfl ?_ | refine Mx.none ?_ | exact Mx.refl | exact Mx.mix
       refine RL.and ?_
       refine RL.p T ?_
       refine RL.join (fr1 := ?_) 3 56 true [57, 58, 59] (fun hs3 hj => ?_) ?_ ?_
       rotate_left
       ·have hs3j := hs3
        try simp only [decide_eq_true_eq, Bool.not_eq_true', decide_eq_false_iff_not, Bool.not_eq_false', Int.not_lt, Int.not_le, Int.toNat_natCast, Bool.and_eq_true, Bool.or_eq_true, Bool.and_eq_false_iff, Bool.or_eq_false_iff] at hs3
        refine RL.p T ?_
        refine RL.p T ?_
        refine RL.p T ?_
        exact hj
       ·repeat first | with_reducible exact Mx.refl | with_reducible exact Mx.mix | refine Mx.put rfl ?_ | refine Mx.upd rfl ?_ | refine Mx.updl rfl ?_ | refine Mx.fin rfl ?_ | refine Mx.inner rfl ?_ | refine Mx.none ?_ | exact Mx.refl | exact Mx.mix
       refine RL.and ?_
       refine RL.p T ?_
       refine RL.nil _ _ _ _ ?_
       refine hK11 _ _ _ ?_
       refine SW.ret ?_
       refine retQ.rr (H) ?_
       clear hK11 K11 hK10 K10 hK9 K9 hK8 K8 hK7 K7 hK5 K5 hK4 K4 hK2 K2 hK1 K1 hK0 K0
       first | exact ⟨rfl, rfl⟩ | (refine ⟨boolE ?_, rfl⟩; simp; done)
       )
    )
end Go.Proofs.YtokihacnhefbfaaDoor.M
