import Derived.Test.YtgdnanfnmaafoaaProg
import Derived.Test.YtgdnanfnmaafoaaFH15
set_option linter.unusedVariables false
set_option linter.unusedSimpArgs false
namespace Go.Proofs.Ytgdnanfnmaafoaa.M
open Go Go.Sep Go.Proofs
set_option maxRecDepth 10000
set_option maxHeartbeats 2000000
theorem filterLeast {w0 : World} {H : List Chunk} (rs : List Rul) (sr : Option Addr) (nr cr : Nat) (hB : ∀ H, Rd w0 H sr nr cr 10 (rs.flatMap RuC)) (hnr : nr = rs.length) (hmr : nr ≤ 140737488351232) (hrs : ∀ k, RuOk (rs.getD k default)) (d : Bool) : SC Try.prog w0 7 #[.agg #[.slice sr nr cr, .bool d]] H (fun v H' => v = .bool true ∧ H' = H) := by
 refine SC.enter Try.func7 rfl (Nat.le_of_ble_eq_true rfl) ?_
 refine SW.seq_k fun K0 hK0 => ?_
 refine SW.region _ _ _ _ ?_
 refine RL.s ?_
 refine NV.box rfl (by exact (rfl : _ = [_, _])) ?_
 intro b1_0
 refine RL.p T ?_
 refine RL.nil _ _ _ _ ?_
 refine hK0 _ _ _ ?_
 refine SW.seq_k fun K1 hK1 => ?_
 refine SW.seq_k fun K2 hK2 => ?_
 refine SW.region _ _ _ _ ?_
 refine RL.c fun9 (fun hs => alive) ?_
 rintro _ _ ⟨rfl, e⟩; obtain rfl := e.symm
 refine RL.p T ?_
 refine RL.nil _ _ _ _ ?_
 refine hK2 _ _ _ ?_
 refine SW.cs (fun hc0 => ?_) (fun hc0 => ?_)
 ·skip
  first
   | (exfalso; first | omega | contradiction | (simp at *; done))
   | (
    refine SW.seq_k fun K3 hK3 => ?_
    refine SW.region _ _ _ _ ?_
    refine RL.p T ?_
    refine RL.nil _ _ _ _ ?_
    refine hK3 _ _ _ ?_
    refine SW.ret ?_
    refine retQ.rr (H) ?_
    clear hK3 K3 hK2 K2 hK1 K1 hK0 K0
    first
      | exact ⟨rfl, rfl⟩
      | (exfalso; simp at *; done)
      | (refine ⟨boolE ?_, rfl⟩; simp)
    )
 ·skip
  first
   | (exfalso; first | omega | contradiction | (simp at *; done))
   | (
    refine SW.skip ?_
    refine hK1 _ _ _ ?_
    refine SW.seq_k fun K4 hK4 => ?_
    refine SW.seq_k fun K5 hK5 => ?_
    refine SW.region _ _ _ _ ?_
    refine RL.p T ?_
    refine RL.lv1 T ?_
    refine RL.p T ?_
    refine RL.p T ?_
    refine RL.nil _ _ _ _ ?_
    refine hK5 _ _ _ ?_
    refine SW.cs (fun hc1 => ?_) (fun hc1 => ?_)
    ·skip
     first
      | (exfalso; first | omega | contradiction | (simp at *; done))
      | (
       refine SW.seq_k fun K6 hK6 => ?_
       refine SW.region _ _ _ _ ?_
       refine RL.p T ?_
       refine RL.nil _ _ _ _ ?_
       refine hK6 _ _ _ ?_
       refine SW.ret ?_
       refine retQ.rr (H) ?_
       clear hK6 K6 hK5 K5 hK4 K4 hK2 K2 hK1 K1 hK0 K0
       first
         | exact ⟨rfl, rfl⟩
         | (exfalso; simp at *; done)
         | (refine ⟨boolE ?_, rfl⟩; simp)
       )
    ·skip
     first
      | (exfalso; first | omega | contradiction | (simp at *; done))
      | (
       refine SW.skip ?_
       refine hK4 _ _ _ ?_
       refine SW.seq_k fun K7 hK7 => ?_
       refine SW.region _ _ _ _ ?_
       refine RL.lvN T rfl rfl rfl rfl rfl (by repeat first | exact At.head _ _ | assumption | exact At.put (by assumption) _ | apply At.tail | apply At.app) (by exact (rfl : _ = [_, _])) ?_
       refine RL.c fun12 (fun hs => bto rs sr nr cr (hB _) hnr (by omega) hrs d) ?_
       rintro _ _ ⟨a1, c1, rfl, e⟩; obtain rfl := e.symm
       refine RL.s ?_
       refine NV.alloc T rfl rfl rfl (by exact (rfl : _ = [_, _])) ?_
       intro b3_1
       refine RL.s ?_
       first
         | refine NV.store_var1 T rfl rfl rfl rfl (by conv => lhs; whnf) rfl (by repeat first | exact At.head _ _ | assumption | exact At.put (by assumption) _ | apply At.tail | apply At.app) rfl (by exact (rfl : _ = [_, _])) ?_
         | refine NV.store_var T rfl rfl rfl (by exact (rfl : _ = [_, _])) rfl rfl (by repeat first | exact At.head _ _ | assumption | exact At.put (by assumption) _ | apply At.tail | apply At.app) (Nat.le_of_ble_eq_true rfl) (by exact (rfl : _ = [_, _])) ?_
         | refine NV.store_elem T rfl rfl rfl rfl (by conv => lhs; whnf) rfl (by repeat first | exact At.head _ _ | assumption | exact At.put (by assumption) _ | apply At.tail | apply At.app) (by omega) ?_
       refine RL.nil _ _ _ _ ?_
       refine hK7 _ _ _ ?_
       refine SW.seq_k fun K8 hK8 => ?_
       refine SW.region _ _ _ _ ?_
       refine RL.lvN T rfl rfl rfl rfl rfl (by repeat first | exact At.head _ _ | assumption | exact At.put (by assumption) _ | apply At.tail | apply At.app) (by exact (rfl : _ = [_, _])) ?_
       refine RL.c fun20 (fun hs => least rs a1 nr c1 (Rd.rowh hs (by repeat first | exact At.head _ _ | apply At.tail)) hnr (by omega) hrs d) ?_
       rintro _ _ ⟨a2, c2, rfl, e⟩; obtain rfl := e.symm
       refine RL.p T ?_
       refine RL.p T ?_
       refine RL.p T ?_
       refine RL.s ?_
       refine NV.alloc T rfl rfl rfl (by exact (rfl : _ = [_, _])) ?_
       intro b4_2
       refine RL.s ?_
       first
         | refine NV.store_var1 T rfl rfl rfl rfl (by conv => lhs; whnf) rfl (by repeat first | exact At.head _ _ | assumption | exact At.put (by assumption) _ | apply At.tail | apply At.app) rfl (by exact (rfl : _ = [_, _])) ?_
         | refine NV.store_var T rfl rfl rfl (by exact (rfl : _ = [_, _])) rfl rfl (by repeat first | exact At.head _ _ | assumption | exact At.put (by assumption) _ | apply At.tail | apply At.app) (Nat.le_of_ble_eq_true rfl) (by exact (rfl : _ = [_, _])) ?_
         | refine NV.store_elem T rfl rfl rfl rfl (by conv => lhs; whnf) rfl (by repeat first | exact At.head _ _ | assumption | exact At.put (by assumption) _ | apply At.tail | apply At.app) (by omega) ?_
       refine RL.p T ?_
       refine RL.nil _ _ _ _ ?_
       refine hK8 _ _ _ ?_
       refine SW.seq_k fun K9 hK9 => ?_
       refine SW.region _ _ _ _ ?_
       refine RL.lvN T rfl rfl rfl rfl rfl (by repeat first | exact At.head _ _ | assumption | exact At.put (by assumption) _ | apply At.tail | apply At.app) (by exact (rfl : _ = [_, _])) ?_
       refine RL.c fun21 (fun hs => rleast rs sr nr cr (hB _) hnr hmr hrs d) ?_
       rintro _ _ ⟨a3, c3, rfl, e⟩; obtain rfl := e.symm
       refine RL.p T ?_
       refine RL.p T ?_
       refine RL.p T ?_
       refine RL.s ?_
       refine NV.alloc T rfl rfl rfl (by exact (rfl : _ = [_, _])) ?_
       intro b6_3
       refine RL.s ?_
       first
         | refine NV.store_var1 T rfl rfl rfl rfl (by conv => lhs; whnf) rfl (by repeat first | exact At.head _ _ | assumption | exact At.put (by assumption) _ | apply At.tail | apply At.app) rfl (by exact (rfl : _ = [_, _])) ?_
         | refine NV.store_var T rfl rfl rfl (by exact (rfl : _ = [_, _])) rfl rfl (by repeat first | exact At.head _ _ | assumption | exact At.put (by assumption) _ | apply At.tail | apply At.app) (Nat.le_of_ble_eq_true rfl) (by exact (rfl : _ = [_, _])) ?_
         | refine NV.store_elem T rfl rfl rfl rfl (by conv => lhs; whnf) rfl (by repeat first | exact At.head _ _ | assumption | exact At.put (by assumption) _ | apply At.tail | apply At.app) (by omega) ?_
       refine RL.p T ?_
       refine RL.nil _ _ _ _ ?_
       refine hK9 _ _ _ ?_
       refine SW.seq_k fun K10 hK10 => ?_
       refine SW.seq_k fun K11 hK11 => ?_
       have hln := least_len rs d
       have hlo := least_ok (d := d) hrs
       refine SW.draw [(27, 0), (28, 1), (29, 2), (30, 3), (31, 4), (32, 5), (33, 6), (34, 7), (35, 8), (36, 9)] [[], [0], [], [1, 0, 2], [3, 1, 0, 2], [4, 3, 1, 0, 2], [5, 4, 3, 1, 0, 2], [5, 4, 3, 1, 0, 2], [6, 5, 4, 3, 1, 0, 2, 7], [5, 4, 3, 1, 0, 2, 8, 6, 7]] mixed (by kernel_rfl) (by kernel_rfl) ?_
       refine RD.q rfl rfl (Gd.none rfl) (by first | exact QV.load_var1 T rfl rfl rfl rfl (by repeat first | exact At.head _ _ | assumption | exact At.put (by assumption) _ | apply At.tail | apply At.app) rfl | exact QV.load_varN T rfl rfl rfl rfl rfl (by repeat first | exact At.head _ _ | assumption | exact At.put (by assumption) _ | apply At.tail | apply At.app) (by exact (rfl : _ = [_, _])) rfl | exact QV.load_elem T rfl rfl rfl rfl (by assumption) hgk) ?_
       refine RD.q rfl rfl (Gd.none rfl) (by first | exact QV.load_var1 T rfl rfl rfl rfl (by repeat first | exact At.head _ _ | assumption | exact At.put (by assumption) _ | apply At.tail | apply At.app) rfl | exact QV.load_varN T rfl rfl rfl rfl rfl (by repeat first | exact At.head _ _ | assumption | exact At.put (by assumption) _ | apply At.tail | apply At.app) (by exact (rfl : _ = [_, _])) rfl | exact QV.load_elem T rfl rfl rfl rfl (by assumption) hgk) ?_
       refine RD.nv rfl rfl rfl (Gd.none rfl) ?_
       refine NV.sat (fun hs => ?_) (fun c hc => by cases hc)
       refine NV.call rfl rfl rfl fun23 rfl rfl (bfrom (leastV rs d).1 a2 _ c2 (Rd.rowh hs (by repeat first | exact At.head _ _ | apply At.tail)) rfl (by omega) hlo _) ?_
       rintro _ _ ⟨a4, c4, rfl, e⟩; obtain rfl := e.symm
       refine ⟨(Stab.cons rfl (Gd.none rfl) (by first | exact QV.load_var1 T rfl rfl rfl rfl (by repeat first | exact At.head _ _ | assumption | exact At.put (by assumption) _ | apply At.tail | apply At.app) rfl | exact QV.load_varN T rfl rfl rfl rfl rfl (by repeat first | exact At.head _ _ | assumption | exact At.put (by assumption) _ | apply At.tail | apply At.app) rfl rfl | exact QV.load_elem T rfl rfl rfl rfl (by assumption) hgk) Stab.nil), ?_⟩
       refine RD.nv rfl rfl rfl (Gd.none rfl) ?_
       refine NV.sat (fun hs => ?_) (fun c hc => by cases hc)
       refine NV.call rfl rfl rfl fun22 rfl rfl (rbsame (leastV rs d).1 a4 _ c4 (Rd.rowh hs (by repeat first | exact At.head _ _ | apply At.tail)) rfl (by omega) hlo _ (leastV rs d).1 a3 _ c3 (Rd.rowh hs (by repeat first | exact At.head _ _ | apply At.tail)) rfl (by omega) hlo _) ?_
       rintro _ _ ⟨rfl, e⟩; obtain rfl := e.symm
       refine ⟨Stab.nil, ?_⟩
       refine RD.q rfl rfl (Gd.none rfl) (pev_sound T (by conv => lhs; whnf; arg 1; whnf)) ?_
       refine RD.q rfl rfl (Gd.none rfl) (pev_sound T (by conv => lhs; whnf; arg 1; whnf)) ?_
       refine RD.split 5 rfl (fun hs0 => ?_) (fun hs0 => ?_)
       ·try simp only [decide_eq_true_eq, decide_eq_false_iff_not, Bool.not_eq_true', Bool.not_eq_false', Int.not_lt, Int.not_le, Int.toNat_natCast] at hs0
        first
         | (exfalso; first | omega | contradiction | (simp at *; done))
         | (
          refine RD.skip rfl rfl rfl rfl ?_
          refine RD.skip rfl rfl rfl rfl ?_
          refine RD.skip rfl rfl rfl rfl ?_
          refine RD.q rfl rfl (Gd.none rfl) (pev_sound T (by conv => lhs; whnf; arg 1; whnf)) ?_
          refine RD.k rfl rfl ?_
          refine hK11 _ _ _ ?_
          refine SW.cond_t rfl ?_
          refine SW.seq_k fun K12 hK12 => ?_
          refine SW.region _ _ _ _ ?_
          refine RL.p T ?_
          refine RL.nil _ _ _ _ ?_
          refine hK12 _ _ _ ?_
          refine SW.ret ?_
          refine retQ.rr (H) ?_
          clear hK12 K12 hK11 K11 hK10 K10 hK9 K9 hK8 K8 hK7 K7 hK5 K5 hK4 K4 hK2 K2 hK1 K1 hK0 K0
          first
            | exact ⟨rfl, rfl⟩
            | (exfalso; simp at *; done)
            | (refine ⟨boolE ?_, rfl⟩; simp)
          )
       ·try simp only [decide_eq_true_eq, decide_eq_false_iff_not, Bool.not_eq_true', Bool.not_eq_false', Int.not_lt, Int.not_le, Int.toNat_natCast] at hs0
        first
         | (exfalso; first | omega | contradiction | (simp at *; done))
         | (
          refine RD.q rfl rfl (Gd.yes rfl rfl) (pev_sound T (by conv => lhs; whnf; arg 1; whnf)) ?_
          refine RD.q rfl rfl (Gd.yes rfl rfl) (pev_sound T (by conv => lhs; whnf; arg 1; whnf)) ?_
          refine RD.q rfl rfl (Gd.yes rfl rfl) (pev_sound T (by conv => lhs; whnf; arg 1; whnf)) ?_
          refine RD.q rfl rfl (Gd.none rfl) (pev_sound T (by conv => lhs; whnf; arg 1; whnf)) ?_
          refine RD.k rfl rfl ?_
          refine hK11 _ _ _ ?_
          refine SW.cs (fun hc2 => ?_) (fun hc2 => ?_)
          ·skip
           first
            | (exfalso; first | omega | contradiction | (simp at *; done))
            | (
             refine SW.seq_k fun K13 hK13 => ?_
             refine SW.region _ _ _ _ ?_
             refine RL.p T ?_
             refine RL.nil _ _ _ _ ?_
             refine hK13 _ _ _ ?_
             refine SW.ret ?_
             refine retQ.rr (H) ?_
             clear hK13 K13 hK11 K11 hK10 K10 hK9 K9 hK8 K8 hK7 K7 hK5 K5 hK4 K4 hK2 K2 hK1 K1 hK0 K0
             first
               | exact ⟨rfl, rfl⟩
               | (exfalso; simp at *; done)
               | (refine ⟨boolE ?_, rfl⟩; simp)
             )
          ·skip
           first
            | (exfalso; first | omega | contradiction | (simp at *; done))
            | (
             refine SW.skip ?_
             refine hK10 _ _ _ ?_
             refine SW.seq_k fun K14 hK14 => ?_
             refine SW.seq_k fun K15 hK15 => ?_
             refine SW.region _ _ _ _ ?_
             refine RL.p T ?_
             refine RL.lv1 T ?_
             refine RL.p T ?_
             refine RL.p T ?_
             refine RL.nil _ _ _ _ ?_
             refine hK15 _ _ _ ?_
             refine SW.block ?_
             refine SW.loopM (fun frB mm fr ds HH => ∃ (k : Nat) , mm = (leastV rs d).1.length - k ∧ (k ≤ (leastV rs d).1.length ∧ (True)) ∧ FrIs [8, 40, 41, 42, 43, 44, 45, 46, 47, 48] frB fr [(40, .int .i64 k)] ∧ ds = [] ∧ HH = (.row a4 (leastV rs d).1.length c4 46 10 ((leastV rs d).1.flatMap RuC) :: .var b6_3 24 [.slice a3 (leastV rs d).1.length c3, .bool (leastV rs d).2.1] :: .row a3 (leastV rs d).1.length c3 46 10 ((leastV rs d).1.flatMap RuC) :: .var b4_2 35 [.slice a2 (leastV rs d).1.length c2, .bool (leastV rs d).2.1] :: .row a2 (leastV rs d).1.length c2 38 10 (List.flatMap RuC (((leastV rs d).1.take k).map zk ++ (leastV rs d).1.drop k)) :: .var b3_1 35 [.slice a1 nr c1, .bool d] :: .row a1 nr c1 38 10 (rs.flatMap RuC) :: .var b1_0 24 [.slice sr nr cr, .bool d] :: H)) (n := (leastV rs d).1.length - 0) ?_ ?_
             ·exact ⟨0, rfl, ⟨Nat.zero_le _, trivial⟩, (.cons rfl (.nil (by repeat first | exact Mx.refl | exact Mx.mix | refine Mx.put rfl ?_ | refine Mx.upd rfl ?_ | refine Mx.updl rfl ?_ | refine Mx.fin rfl ?_ | refine Mx.inner rfl ?_ | refine Mx.none ?_))), rfl, (by rfl)⟩
             ·rintro mm fr ds HH ⟨k, rfl, ⟨hk, _⟩, hFr, rfl, eHH⟩
              obtain rfl := eHH.symm
              obtain ⟨frU, rfl⟩ := hFr.eq
              clear hFr
              have hgk := fun h => mapk_get (g := zk) (rs := (leastV rs d).1) (k := k) h
              have hfk : ((((leastV rs d).1.take k).map zk ++ (leastV rs d).1.drop k)).length = (leastV rs d).1.length := mapk_len
              refine SW.seq_k fun K16 hK16 => ?_
              refine SW.region _ _ _ _ ?_
              refine RL.p T ?_
              refine RL.nil _ _ _ _ ?_
              refine hK16 _ _ _ ?_
              refine SW.seq_k fun K17 hK17 => ?_
              refine SW.cs (fun hc3 => ?_) (fun hc3 => ?_)
              ·skip
               first
                | (exfalso; first | omega | contradiction | (simp at *; done))
                | (
                 refine SW.skip ?_
                 refine hK17 _ _ _ ?_
                 refine SW.seq_k fun K18 hK18 => ?_
                 refine SW.block ?_
                 refine SW.seq_k fun K19 hK19 => ?_
                 refine SW.region _ _ _ _ ?_
                 refine RL.p T ?_
                 refine RL.p T ?_
                 refine RL.nil _ _ _ _ ?_
                 refine hK19 _ _ _ ?_
                 replace hgk := hgk (by omega)
                 refine SW.region _ _ _ _ ?_
                 refine RL.p T ?_
                 refine RL.lv1 T ?_
                 refine RL.p T ?_
                 refine RL.ix T ?_
                 refine RL.p T ?_
                 refine RL.seF T (zk ((leastV rs d).1.getD k default)) ?_
                 refine RL.nil _ _ _ _ ?_
                 refine hK18 _ _ _ ?_
                 refine SW.region _ _ _ _ ?_
                 first | refine RL.ar ?_ | refine RL.p T ?_
                 refine RL.p T ?_
                 refine RL.nil _ _ _ _ ?_
                 exact ⟨(leastV rs d).1.length - (k + 1), (by omega), k + 1, (by rfl), ⟨by omega, trivial⟩, (.cons rfl (.nil (by repeat first | exact Mx.refl | exact Mx.mix | refine Mx.put rfl ?_ | refine Mx.upd rfl ?_ | refine Mx.updl rfl ?_ | refine Mx.fin rfl ?_ | refine Mx.inner rfl ?_ | refine Mx.none ?_))), rfl, (by rw [← mapk_step (by omega)]; rfl)⟩
                 )
              ·skip
               first
                | (exfalso; first | omega | contradiction | (simp at *; done))
                | (
                 refine SW.exit ?_
                 refine hK14 _ _ _ ?_
                 refine SW.seq_k fun K20 hK20 => ?_
                 refine SW.draw [(49, 0), (50, 1), (51, 2), (52, 3), (2, 4)] [[], [0], [], [1, 0, 2], [3, 1, 0, 2]] mixed (by kernel_rfl) (by kernel_rfl) ?_
                 refine RD.q rfl rfl (Gd.none rfl) (by first | exact QV.load_var1 T rfl rfl rfl rfl (by repeat first | exact At.head _ _ | assumption | exact At.put (by assumption) _ | apply At.tail | apply At.app) rfl | exact QV.load_varN T rfl rfl rfl rfl rfl (by repeat first | exact At.head _ _ | assumption | exact At.put (by assumption) _ | apply At.tail | apply At.app) (by exact (rfl : _ = [_, _])) rfl | exact QV.load_elem T rfl rfl rfl rfl (by assumption) hgk) ?_
                 refine RD.q rfl rfl (Gd.none rfl) (by first | exact QV.load_var1 T rfl rfl rfl rfl (by repeat first | exact At.head _ _ | assumption | exact At.put (by assumption) _ | apply At.tail | apply At.app) rfl | exact QV.load_varN T rfl rfl rfl rfl rfl (by repeat first | exact At.head _ _ | assumption | exact At.put (by assumption) _ | apply At.tail | apply At.app) (by exact (rfl : _ = [_, _])) rfl | exact QV.load_elem T rfl rfl rfl rfl (by assumption) hgk) ?_
                 refine RD.nv rfl rfl rfl (Gd.none rfl) ?_
                 refine NV.sat (fun hs => ?_) (fun c hc => by cases hc)
                 refine NV.call rfl rfl rfl fun23 rfl rfl (bfrom rs a1 nr c1 (Rd.rowh hs (by repeat first | exact At.head _ _ | apply At.tail)) hnr (by omega) hrs d) ?_
                 rintro _ _ ⟨a5, c5, rfl, e⟩; obtain rfl := e.symm
                 refine ⟨(Stab.cons rfl (Gd.none rfl) (by first | exact QV.load_var1 T rfl rfl rfl rfl (by repeat first | exact At.head _ _ | assumption | exact At.put (by assumption) _ | apply At.tail | apply At.app) rfl | exact QV.load_varN T rfl rfl rfl rfl rfl (by repeat first | exact At.head _ _ | assumption | exact At.put (by assumption) _ | apply At.tail | apply At.app) rfl rfl | exact QV.load_elem T rfl rfl rfl rfl (by assumption) hgk) Stab.nil), ?_⟩
                 refine RD.nv rfl rfl rfl (Gd.none rfl) ?_
                 refine NV.sat (fun hs => ?_) (fun c hc => by cases hc)
                 refine NV.call rfl rfl rfl fun22 rfl rfl (rbsame rs a5 nr c5 (Rd.rowh hs (by repeat first | exact At.head _ _ | apply At.tail)) hnr (by omega) hrs d rs sr nr cr (hB _) hnr hmr hrs d) ?_
                 rintro _ _ ⟨rfl, e⟩; obtain rfl := e.symm
                 refine ⟨Stab.nil, ?_⟩
                 refine RD.q rfl rfl (Gd.none rfl) (pev_sound T (by conv => lhs; whnf; arg 1; whnf)) ?_
                 refine RD.k rfl rfl ?_
                 refine hK20 _ _ _ ?_
                 refine SW.ret ?_
                 refine retQ.rr (H) ?_
                 clear hK20 K20 hK17 K17 hK16 K16 hK15 K15 hK14 K14 hK11 K11 hK10 K10 hK9 K9 hK8 K8 hK7 K7 hK5 K5 hK4 K4 hK2 K2 hK1 K1 hK0 K0
                 first
                   | exact ⟨rfl, rfl⟩
                   | (exfalso; simp at *; done)
                   | (refine ⟨boolE ?_, rfl⟩; simp)
                 )
             )
          )
       )
    )
end Go.Proofs.Ytgdnanfnmaafoaa.M
