import Derived.Test.YthigfghfpmpiiaaProg
import Derived.Test.YthigfghfpmpiiaaFC19
set_option linter.unusedVariables false
set_option linter.unusedSimpArgs false
namespace Go.Proofs.Ythigfghfpmpiiaa.M
open Go Go.Sep Go.Proofs
set_option maxRecDepth 10000
set_option maxHeartbeats 2000000
theorem alive {w0 : World} {H : List Chunk}  : SC Try.prog w0 4 #[] H (fun v H' => v = .bool true ∧ H' = H) := by
 refine SC.enter Try.func4 rfl (Nat.le_of_ble_eq_true rfl) ?_
 refine SW.seq_k fun K0 hK0 => ?_
 refine SW.region _ _ _ _ ?_
 refine RL.p T ?_
 refine RL.nil _ _ _ _ ?_
 refine hK0 _ _ _ ?_
 refine SW.seq_k fun K1 hK1 => ?_
 refine SW.region _ _ _ _ ?_
 refine RL.bs T rfl rfl rfl (by exact (rfl : _ = some [_])) (fun b4_0 => ?_)
 refine RL.s ?_
 first | refine NV.buildc T rfl (rfl : _ = some [_, _]) ?_ | refine NV.buildz T rfl (rfl : _ = some [_, _]) ?_ | refine NV.pure T (rfl : _ = some (Value.agg #[_, _])) ?_
 refine RL.bs T rfl rfl rfl (by exact (rfl : _ = some [_, _])) (fun b6_1 => ?_)
 refine RL.c fun6 (fun hs => pjoin [(⟨1, [9], some ⟨b4_0, 0, none⟩, 1, 1⟩ : Pd)] _ 1 1 (Rd.rowh hs (by repeat first | exact At.head _ _ | apply At.tail)) rfl (by omega) (one_ok ⟨by dsimp only; omega, rfl, by dsimp only; omega, Byte.one (by omega) (by omega), (Rd.rowh hs (by repeat first | exact At.head _ _ | apply At.tail))⟩)) ?_
 rintro _ _ ⟨a1, c1, rfl, e⟩; obtain rfl := e.symm
 rw [one_join]
 refine RL.p T ?_
 refine RL.p T ?_
 refine RL.p T ?_
 refine RL.p T ?_
 refine RL.p T ?_
 refine RL.nil _ _ _ _ ?_
 refine hK1 _ _ _ ?_
 refine SW.seq_k fun K2 hK2 => ?_
 refine SW.region _ _ _ _ ?_
 refine RL.p T ?_
 refine RL.bs T rfl rfl rfl (by exact (rfl : _ = some [_, _, _, _, _, _, _, _, _, _, _, _])) (fun b11_2 => ?_)
 refine RL.c fun9 (fun hs => same a1 _ 12 c1 12 12 [0, 0, 0, 1, 0, 1, 0, 0, 9, 0, 0, 0] [0, 0, 0, 1, 0, 1, 0, 0, 9, 0, 0, 0] (Rd.rowh hs (by repeat first | exact At.head _ _ | apply At.tail)) (Rd.rowh hs (by repeat first | exact At.head _ _ | apply At.tail)) rfl rfl (by omega) (by omega)) ?_
 rintro _ _ ⟨rfl, e⟩; obtain rfl := e.symm
 refine RL.p T ?_
 refine RL.join (fr1 := ?_) 2 13 true [14, 15] (fun hs0 hj => ?_) ?_ ?_
 rotate_left
 ·have hs0j := hs0
  try simp only [decide_eq_true_eq, Bool.not_eq_true', decide_eq_false_iff_not, Bool.not_eq_false', Int.not_lt, Int.not_le, Int.toNat_natCast, Bool.and_eq_true, Bool.or_eq_true, Bool.and_eq_false_iff, Bool.or_eq_false_iff] at hs0
  refine RL.p T ?_
  refine RL.p T ?_
  exact hj
 ·repeat first | exact Mx.refl | exact Mx.mix | refine Mx.put rfl ?_ | refine Mx.upd rfl ?_ | refine Mx.updl rfl ?_ | refine Mx.fin rfl ?_ | refine Mx.inner rfl ?_ | refine Mx.none ?_
 refine RL.and ?_
 refine RL.p T ?_
 refine RL.nil _ _ _ _ ?_
 refine hK2 _ _ _ ?_
 refine SW.ret ?_
 refine retQ.rr (H) ?_
 clear hK2 K2 hK1 K1 hK0 K0
 refine ⟨boolE ?_, rfl⟩; decide
theorem join_max (ps : List Pd) : (joinV ps).1.length ≤ 2048 := by
  have key : ∀ (ps : List Pd) (out : List Int), out.length ≤ 2048 → (joinS ps out).1.length ≤ 2048 := by
    intro ps
    induction ps with
    | nil => intro out h; exact h
    | cons p r ih =>
      intro out h
      rw [joinS]
      split
      · rename_i g; refine ih _ ?_; rw [List.length_append, bytesP_len]; omega
      · simp
  unfold joinV
  split
  · simp
  · exact key ps [] (by simp)
theorem pduJoins {w0 : World} {H : List Chunk} (ps : List Pd) (sr : Option Addr) (nr cr : Nat) (hB : ∀ H, Rd w0 H sr nr cr 2 (ps.flatMap PdC)) (hnr : nr = ps.length) (hmr : nr ≤ 4398046511000) (hps : ∀ H k, PdOk w0 H (ps.getD k default)) : SC Try.prog w0 3 #[.slice sr nr cr] H (fun v H' => v = .bool true ∧ H' = H) := by
 refine SC.enter Try.func3 rfl (Nat.le_of_ble_eq_true rfl) ?_
 refine SW.seq_k fun K0 hK0 => ?_
 refine SW.region _ _ _ _ ?_
 refine RL.p T ?_
 refine RL.nil _ _ _ _ ?_
 refine hK0 _ _ _ ?_
 refine SW.seq_k fun K1 hK1 => ?_
 refine SW.seq_k fun K2 hK2 => ?_
 refine SW.region _ _ _ _ ?_
 refine RL.c fun4 (fun hs => alive) ?_
 rintro _ _ ⟨rfl, e⟩; obtain rfl := e.symm
 refine RL.p T ?_
 refine RL.nil _ _ _ _ ?_
 refine hK2 _ _ _ ?_
 refine SW.cs (fun hc0 => ?_) (fun hc0 => ?_)
 ·skip
  first
   | (exfalso; first | omega | contradiction | (simp at *; done))
   | (
    refine SW.seq_k fun K3 hK3 => ?_
    refine SW.region _ _ _ _ ?_
    refine RL.p T ?_
    refine RL.nil _ _ _ _ ?_
    refine hK3 _ _ _ ?_
    refine SW.ret ?_
    refine retQ.rr (H) ?_
    clear hK3 K3 hK2 K2 hK1 K1 hK0 K0
    first
      | exact ⟨rfl, rfl⟩
      | (exfalso; simp at *; done)
    )
 ·skip
  first
   | (exfalso; first | omega | contradiction | (simp at *; done))
   | (
    refine SW.skip ?_
    refine hK1 _ _ _ ?_
    refine SW.seq_k fun K4 hK4 => ?_
    refine SW.seq_k fun K5 hK5 => ?_
    refine SW.region _ _ _ _ ?_
    refine RL.p T ?_
    refine RL.c fun5 (fun hs => great ps sr nr cr (hB _) hnr hmr (hps _)) ?_
    rintro _ _ ⟨bg, rfl, e, hbg⟩; obtain rfl := e.symm
    refine RL.nil _ _ _ _ ?_
    refine hK5 _ _ _ ?_
    refine SW.cs (fun hc1 => ?_) (fun hc1 => ?_)
    ·skip
     first
      | (exfalso; first | omega | contradiction | (simp at *; done))
      | (
       refine SW.seq_k fun K6 hK6 => ?_
       refine SW.region _ _ _ _ ?_
       refine RL.p T ?_
       refine RL.nil _ _ _ _ ?_
       refine hK6 _ _ _ ?_
       refine SW.ret ?_
       refine retQ.rr (H) ?_
       clear hK6 K6 hK5 K5 hK4 K4 hK2 K2 hK1 K1 hK0 K0
       first
         | exact ⟨rfl, rfl⟩
         | (exfalso; simp at *; done)
       )
    ·skip
     first
      | (exfalso; first | omega | contradiction | (simp at *; done))
      | (
       refine SW.skip ?_
       refine hK4 _ _ _ ?_
       refine SW.seq_k fun K7 hK7 => ?_
       refine SW.region _ _ _ _ ?_
       refine RL.p T ?_
       refine RL.c fun7 (fun hs => pto ps sr nr cr (hB _) hnr hmr (hps _)) ?_
       rintro _ _ ⟨a1, c1, rfl, e⟩; obtain rfl := e.symm
       refine RL.c fun6 (fun hs => pjoin ps a1 nr c1 (Rd.rowh hs (by repeat first | exact At.head _ _ | apply At.tail)) hnr hmr (hps _)) ?_
       rintro _ _ ⟨a2, c2, rfl, e⟩; obtain rfl := e.symm
       refine RL.p T ?_
       refine RL.p T ?_
       refine RL.p T ?_
       refine RL.p T ?_
       refine RL.p T ?_
       refine RL.nil _ _ _ _ ?_
       refine hK7 _ _ _ ?_
       refine SW.seq_k fun K8 hK8 => ?_
       refine SW.region _ _ _ _ ?_
       refine RL.p T ?_
       refine RL.c fun8 (fun hs => rjoin ps sr nr cr (hB _) hnr hmr (hps _)) ?_
       rintro _ _ ⟨a3, c3, rfl, e⟩; obtain rfl := e.symm
       refine RL.p T ?_
       refine RL.p T ?_
       refine RL.p T ?_
       refine RL.p T ?_
       refine RL.p T ?_
       refine RL.nil _ _ _ _ ?_
       refine hK8 _ _ _ ?_
       refine SW.seq_k fun K9 hK9 => ?_
       refine SW.seq_k fun K10 hK10 => ?_
       have hjm := join_max ps
       refine SW.region _ _ _ _ ?_
       refine RL.p T ?_
       refine RL.p T ?_
       refine RL.c fun9 (fun hs => same a2 a3 _ c2 _ c3 (joinV ps).1 (joinV ps).1 (Rd.rowh hs (At.tail (At.head _ _))) (Rd.rowh hs (At.head _ _)) rfl rfl (by omega) (by omega)) ?_
       rintro _ _ ⟨rfl, e⟩; obtain rfl := e.symm
       refine RL.p T ?_
       refine RL.p T ?_
       refine RL.join (fr1 := ?_) 3 32 false [33, 34, 35] (fun hs0 hj => ?_) ?_ ?_
       rotate_left
       ·have hs0j := hs0
        try simp only [decide_eq_true_eq, Bool.not_eq_true', decide_eq_false_iff_not, Bool.not_eq_false', Int.not_lt, Int.not_le, Int.toNat_natCast, Bool.and_eq_true, Bool.or_eq_true, Bool.and_eq_false_iff, Bool.or_eq_false_iff] at hs0
        refine RL.p T ?_
        refine RL.p T ?_
        refine RL.p T ?_
        exact hj
       ·repeat first | exact Mx.refl | exact Mx.mix | refine Mx.put rfl ?_ | refine Mx.upd rfl ?_ | refine Mx.updl rfl ?_ | refine Mx.fin rfl ?_ | refine Mx.inner rfl ?_ | refine Mx.none ?_
       refine RL.or ?_
       refine RL.nil _ _ _ _ ?_
       refine hK10 _ _ _ ?_
       refine SW.cs (fun hc2 => ?_) (fun hc2 => ?_)
       ·skip
        first
         | (exfalso; first | omega | contradiction | (simp at *; done))
         | (
          refine SW.seq_k fun K11 hK11 => ?_
          refine SW.region _ _ _ _ ?_
          refine RL.p T ?_
          refine RL.nil _ _ _ _ ?_
          refine hK11 _ _ _ ?_
          refine SW.ret ?_
          refine retQ.rr (H) ?_
          clear hK11 K11 hK10 K10 hK9 K9 hK8 K8 hK7 K7 hK5 K5 hK4 K4 hK2 K2 hK1 K1 hK0 K0
          first
            | exact ⟨rfl, rfl⟩
            | (exfalso; simp at *; done)
          )
       ·skip
        first
         | (exfalso; first | omega | contradiction | (simp at *; done))
         | (
          refine SW.skip ?_
          refine hK9 _ _ _ ?_
          refine SW.seq_k fun K12 hK12 => ?_
          refine SW.seq_k fun K13 hK13 => ?_
          refine SW.region _ _ _ _ ?_
          refine RL.p T ?_
          refine RL.p T ?_
          refine RL.p T ?_
          refine RL.nil _ _ _ _ ?_
          refine hK13 _ _ _ ?_
          refine SW.block ?_
          refine SW.loopM (fun frB mm fr ds HH => ∃ (k : Nat) , mm = nr - k ∧ (k ≤ nr ∧ (True)) ∧ FrIs [2, 8, 9, 10, 11, 12, 39, 40, 41, 42, 43, 44, 45, 46, 47, 48, 49, 50, 51, 52, 53, 54, 55, 56, 57, 58, 59, 60, 61] frB fr [(39, .int .i64 k)] ∧ ds = [] ∧ HH = (.row a3 (joinV ps).1.length c3 5 1 ((joinV ps).1.map (.int .u8)) :: .row a2 (joinV ps).1.length c2 5 1 ((joinV ps).1.map (.int .u8)) :: .row a1 nr c1 38 2 (ps.flatMap PdC) :: H)) (n := nr - 0) ?_ ?_
          ·exact ⟨0, rfl, ⟨Nat.zero_le _, trivial⟩, (.cons rfl (.nil (by repeat first | exact Mx.refl | exact Mx.mix | refine Mx.put rfl ?_ | refine Mx.upd rfl ?_ | refine Mx.updl rfl ?_ | refine Mx.fin rfl ?_ | refine Mx.inner rfl ?_ | refine Mx.none ?_))), rfl, rfl⟩
          ·rintro mm fr ds HH ⟨k, rfl, ⟨hk, _⟩, hFr, rfl, eHH⟩
           obtain rfl := eHH.symm
           obtain ⟨frU, rfl⟩ := hFr.eq
           clear hFr
           refine SW.seq_k fun K14 hK14 => ?_
           refine SW.region _ _ _ _ ?_
           refine RL.p T ?_
           refine RL.nil _ _ _ _ ?_
           refine hK14 _ _ _ ?_
           refine SW.seq_k fun K15 hK15 => ?_
           refine SW.cs (fun hc3 => ?_) (fun hc3 => ?_)
           ·skip
            first
             | (exfalso; first | omega | contradiction | (simp at *; done))
             | (
              refine SW.skip ?_
              refine hK15 _ _ _ ?_
              refine SW.seq_k fun K16 hK16 => ?_
              refine SW.block ?_
              refine SW.seq_k fun K17 hK17 => ?_
              refine SW.region _ _ _ _ ?_
              refine RL.ix T ?_ (hR := fun hs => hB _)
              refine RL.leN T ?_ (hR := fun hs => hB _) (hvs := (by exact (rfl : _ = [_, _])))
              refine RL.s ?_
              refine NV.alloc T rfl rfl rfl (by exact (rfl : _ = [_, _])) ?_
              intro b8_0
              refine RL.s ?_
              first
                | refine NV.store_var1 T rfl rfl rfl rfl (by conv => lhs; whnf) rfl (by repeat first | exact At.head _ _ | assumption | exact At.put (by assumption) _ | apply At.tail | apply At.app) rfl (by exact (rfl : _ = [_, _])) ?_
                | refine NV.store_var T rfl rfl rfl (by exact (rfl : _ = [_, _])) rfl rfl (by repeat first | exact At.head _ _ | assumption | exact At.put (by assumption) _ | apply At.tail | apply At.app) (Nat.le_of_ble_eq_true rfl) (by exact (rfl : _ = [_, _])) ?_
                | refine NV.store_elem T rfl rfl rfl rfl (by conv => lhs; whnf) rfl (by repeat first | exact At.head _ _ | assumption | exact At.put (by assumption) _ | apply At.tail | apply At.app) (by omega) ?_
              refine RL.nil _ _ _ _ ?_
              refine hK17 _ _ _ ?_
              refine SW.seq_k fun K18 hK18 => ?_
              refine SW.region _ _ _ _ ?_
              refine RL.lvN T rfl rfl rfl rfl rfl (by repeat first | exact At.head _ _ | assumption | exact At.put (by assumption) _ | apply At.tail | apply At.app) (by exact (rfl : _ = [_, _])) ?_
              refine RL.c fun10 (fun hs => psize (ps.getD k default) (hps _ k)) ?_
              rintro _ _ ⟨rfl, e⟩; obtain rfl := e.symm
              refine RL.p T ?_
              refine RL.p T ?_
              refine RL.p T ?_
              refine RL.p T ?_
              refine RL.p T ?_
              refine RL.nil _ _ _ _ ?_
              refine hK18 _ _ _ ?_
              refine SW.seq_k fun K19 hK19 => ?_
              refine SW.region _ _ _ _ ?_
              refine RL.lvN T rfl rfl rfl rfl rfl (by repeat first | exact At.head _ _ | assumption | exact At.put (by assumption) _ | apply At.tail | apply At.app) (by exact (rfl : _ = [_, _])) ?_
              refine RL.c fun11 (fun hs => rsize (ps.getD k default) (hps _ k)) ?_
              rintro _ _ ⟨rfl, e⟩; obtain rfl := e.symm
              refine RL.p T ?_
              refine RL.p T ?_
              refine RL.p T ?_
              refine RL.p T ?_
              refine RL.p T ?_
              refine RL.nil _ _ _ _ ?_
              refine hK19 _ _ _ ?_
              refine SW.seq_k fun K20 hK20 => ?_
              refine SW.region _ _ _ _ ?_
              refine RL.p T ?_
              refine RL.p T ?_
              refine RL.p T ?_
              refine RL.p T ?_
              refine RL.join (fr1 := ?_) 3 56 false [57, 58, 59] (fun hs1 hj => ?_) ?_ ?_
              rotate_left
              ·have hs1j := hs1
               try simp only [decide_eq_true_eq, Bool.not_eq_true', decide_eq_false_iff_not, Bool.not_eq_false', Int.not_lt, Int.not_le, Int.toNat_natCast, Bool.and_eq_true, Bool.or_eq_true, Bool.and_eq_false_iff, Bool.or_eq_false_iff] at hs1
               refine RL.p T ?_
               refine RL.p T ?_
               refine RL.p T ?_
               exact hj
              ·repeat first | exact Mx.refl | exact Mx.mix | refine Mx.put rfl ?_ | refine Mx.upd rfl ?_ | refine Mx.updl rfl ?_ | refine Mx.fin rfl ?_ | refine Mx.inner rfl ?_ | refine Mx.none ?_
              refine RL.or ?_
              refine RL.drop ?_
              refine RL.nil _ _ _ _ ?_
              refine hK20 _ _ _ ?_
              refine SW.cs (fun hc4 => ?_) (fun hc4 => ?_)
              ·skip
               first
                | (exfalso; first | omega | contradiction | (simp at *; done))
                | (
                 refine SW.seq_k fun K21 hK21 => ?_
                 refine SW.region _ _ _ _ ?_
                 refine RL.p T ?_
                 refine RL.nil _ _ _ _ ?_
                 refine hK21 _ _ _ ?_
                 refine SW.ret ?_
                 refine retQ.rr (H) ?_
                 clear hK21 K21 hK20 K20 hK19 K19 hK18 K18 hK17 K17 hK16 K16 hK15 K15 hK14 K14 hK13 K13 hK12 K12 hK10 K10 hK9 K9 hK8 K8 hK7 K7 hK5 K5 hK4 K4 hK2 K2 hK1 K1 hK0 K0
                 first
                   | exact ⟨rfl, rfl⟩
                   | (exfalso; simp at *; done)
                 )
              ·skip
               first
                | (exfalso; first | omega | contradiction | (simp at *; done))
                | (
                 refine SW.skip ?_
                 refine hK16 _ _ _ ?_
                 refine SW.region _ _ _ _ ?_
                 first | refine RL.ar ?_ | refine RL.p T ?_
                 refine RL.p T ?_
                 refine RL.nil _ _ _ _ ?_
                 exact ⟨nr - (k + 1), (by omega), k + 1, (by rfl), ⟨by omega, trivial⟩, (.cons rfl (.nil (by repeat first | exact Mx.refl | exact Mx.mix | refine Mx.put rfl ?_ | refine Mx.upd rfl ?_ | refine Mx.updl rfl ?_ | refine Mx.fin rfl ?_ | refine Mx.inner rfl ?_ | refine Mx.none ?_))), rfl, rfl⟩
                 )
              )
           ·skip
            first
             | (exfalso; first | omega | contradiction | (simp at *; done))
             | (
              refine SW.exit ?_
              refine hK12 _ _ _ ?_
              refine SW.seq_k fun K22 hK22 => ?_
              refine SW.region _ _ _ _ ?_
              refine RL.p T ?_
              refine RL.nil _ _ _ _ ?_
              refine hK22 _ _ _ ?_
              refine SW.ret ?_
              refine retQ.rr (H) ?_
              clear hK22 K22 hK15 K15 hK14 K14 hK13 K13 hK12 K12 hK10 K10 hK9 K9 hK8 K8 hK7 K7 hK5 K5 hK4 K4 hK2 K2 hK1 K1 hK0 K0
              first
                | exact ⟨rfl, rfl⟩
                | (exfalso; simp at *; done)
              )
          )
       )
    )
end Go.Proofs.Ythigfghfpmpiiaa.M
