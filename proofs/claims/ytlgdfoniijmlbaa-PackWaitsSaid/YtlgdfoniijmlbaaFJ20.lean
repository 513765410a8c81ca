import Derived.Test.YtlgdfoniijmlbaaProg
import Derived.Test.YtlgdfoniijmlbaaFH20
set_option linter.unusedVariables false
set_option linter.unusedSimpArgs false
namespace Go.Proofs.Ytlgdfoniijmlbaa.M
open Go Go.Sep Go.Proofs
set_option maxRecDepth 10000
set_option maxHeartbeats 20000000
theorem packWaits {w0 : World} {H : List Chunk} (room wait : Nat) (hrw : 8 ≤ room ∧ room ≤ 2048 ∧ 1 ≤ wait ∧ wait ≤ 1000) (p : Pd) (hp : ∀ H, PdOk w0 H p) (ps : List Pd) (sr : Option Addr) (nr cr : Nat) (hB : ∀ H, Rd w0 H sr nr cr 2 (ps.flatMap PdC)) (hnr : nr = ps.length) (hmr : nr ≤ 4398046511000) (hps : ∀ H, ∀ y ∈ ps, PdOk w0 H y) : SC Try.prog w0 3 #[.agg #[.int .i64 ((room : Nat) : Int), .int .i64 ((wait : Nat) : Int), .int .u32 p.id, .slice p.a p.n p.c, .slice sr nr cr]] H (fun v H' => v = .bool true ∧ H' = H) := by
 refine SC.enter Try.func3 rfl (Nat.le_of_ble_eq_true rfl) ?_
 refine SW.seq_k fun K0 hK0 => ?_
 refine SW.region _ _ _ _ ?_
 refine RL.s ?_
 refine NV.box rfl (by exact (rfl : _ = [_, _, _, _, _])) ?_
 intro b1_0
 refine RL.p T ?_
 refine RL.nil _ _ _ _ ?_
 refine hK0 _ _ _ ?_
 refine SW.seq_k fun K1 hK1 => ?_
 refine SW.seq_k fun K2 hK2 => ?_
 refine SW.region _ _ _ _ ?_
 refine RL.c fun5 (fun hs => alive) ?_
 rintro _ _ ⟨rfl, e⟩; obtain rfl := e.symm
 refine RL.p T ?_
 refine RL.nil _ _ _ _ ?_
 refine hK2 _ _ _ ?_
 refine SW.cs (fun hc0 => ?_) (fun hc0 => ?_)
 ·skip
  first
   | (exfalso; first | omega | contradiction | (clear hK2 K2; clear hK1 K1; clear hK0 K0; simp at *; done))
   | (
    refine SW.seq_k fun K3 hK3 => ?_
    refine SW.region _ _ _ _ ?_
    refine RL.p T ?_
    refine RL.nil _ _ _ _ ?_
    refine hK3 _ _ _ ?_
    refine SW.ret ?_
    refine retQ.rr (H) ?_
    clear hK3 K3 hK2 K2 hK1 K1 hK0 K0
    first
      | exact ⟨rfl, rfl⟩
      | exact ⟨boolE (decide_eq_true (by omega)), rfl⟩
    )
 ·skip
  first
   | (exfalso; first | omega | contradiction | (clear hK2 K2; clear hK1 K1; clear hK0 K0; simp at *; done))
   | (
    refine SW.skip ?_
    refine hK1 _ _ _ ?_
    refine SW.seq_k fun K4 hK4 => ?_
    refine SW.draw [(18, 0), (19, 1), (20, 2), (21, 3), (22, 4), (23, 5), (24, 6), (25, 7), (5, 8), (3, 9), (4, 10), (6, 12)] [[], [0], [], [2], [], [4], [], [6], [], [1, 0, 8], [3, 2, 9, 1, 0, 8], [8, 5, 4, 10, 3, 2, 9, 1, 0], [7, 6, 11, 8, 5, 4, 10, 3, 2, 9, 1, 0]] mixed (by kernel_rfl) (by kernel_rfl) ?_
    refine RD.p T ?_
    refine RD.q rfl rfl (Gd.none rfl) (QV.v1 T) ?_
    refine RD.p T ?_
    refine RD.q rfl rfl (Gd.none rfl) (QV.v1 T) ?_
    refine RD.p T ?_
    refine RD.q rfl rfl (Gd.none rfl) (QV.vN T rfl rfl rfl rfl rfl (by exact (rfl : _ = [_, _]))) ?_
    refine RD.p T ?_
    refine RD.q rfl rfl (Gd.none rfl) (QV.v1 T) ?_
    refine RD.nv rfl rfl rfl (Gd.none rfl) ?_
    refine NV.alloc T rfl rfl rfl (by exact (rfl : _ = [_, _])) ?_
    intro b5_1
    refine ⟨(Stab.cons rfl (Gd.none rfl) (QV.v1 T) (Stab.cons rfl (Gd.none rfl) (pev_sound T rfl) (Stab.cons rfl (Gd.none rfl) (QV.vN T rfl rfl rfl rfl rfl rfl) (Stab.cons rfl (Gd.none rfl) (pev_sound T rfl) (Stab.cons rfl (Gd.none rfl) (QV.v1 T) (Stab.cons rfl (Gd.none rfl) (pev_sound T rfl) (Stab.cons rfl (Gd.none rfl) (QV.v1 T) (Stab.cons rfl (Gd.none rfl) (pev_sound T rfl) Stab.nil)))))))), ?_⟩
    refine RD.p T ?_
    refine RD.p T ?_
    refine RD.nv rfl rfl rfl (Gd.none rfl) ?_
    refine NV.sN T rfl rfl rfl (by exact (rfl : _ = [_, _])) (by exact (rfl : _ = [_, _])) ?_
    refine ⟨(Stab.cons rfl (Gd.none rfl) (QV.v1 T) (Stab.cons rfl (Gd.none rfl) (pev_sound T rfl) Stab.nil)), ?_⟩
    refine RD.p T ?_
    refine RD.k rfl rfl ?_
    refine hK4 _ _ _ ?_
    refine SW.seq_k fun K5 hK5 => ?_
    refine SW.region _ _ _ _ ?_
    refine RL.p T ?_
    refine RL.p T ?_
    refine RL.c fun6 (fun hs => new_ok room wait (by omega)) ?_
    rintro _ _ ⟨b, rfl, e⟩; obtain rfl := e.symm
    refine RL.p T ?_
    refine RL.p T ?_
    refine RL.p T ?_
    refine RL.p T ?_
    refine RL.p T ?_
    refine RL.nil _ _ _ _ ?_
    refine hK5 _ _ _ ?_
    refine SW.seq_k fun K6 hK6 => ?_
    refine SW.seq_k fun K7 hK7 => ?_
    refine SW.region _ _ _ _ ?_
    refine RL.p T ?_
    refine RL.p T ?_
    refine RL.p T ?_
    refine RL.sp 34 (fun hs0 => ?_) (fun hs0 => ?_)
    ·skip
     first
      | (exfalso; first | omega | contradiction | (clear hK7 K7; clear hK6 K6; clear hK5 K5; clear hK4 K4; clear hK2 K2; clear hK1 K1; clear hK0 K0; simp at *; done))
      | (
       refine RL.guard_no rfl rfl rfl ?_
       refine RL.guard_no rfl rfl rfl ?_
       refine RL.guard_no rfl rfl rfl ?_
       refine RL.p T ?_
       refine RL.p T ?_
       refine RL.guard_no rfl rfl rfl ?_
       refine RL.guard_no rfl rfl rfl ?_
       refine RL.guard_no rfl rfl rfl ?_
       refine RL.guard_no rfl rfl rfl ?_
       refine RL.p T ?_
       refine RL.nil _ _ _ _ ?_
       refine hK7 _ _ _ ?_
       refine SW.cond_t rfl ?_
       refine SW.seq_k fun K8 hK8 => ?_
       refine SW.region _ _ _ _ ?_
       refine RL.p T ?_
       refine RL.nil _ _ _ _ ?_
       refine hK8 _ _ _ ?_
       refine SW.ret ?_
       refine retQ.rr (H) ?_
       clear hK8 K8 hK7 K7 hK6 K6 hK5 K5 hK4 K4 hK2 K2 hK1 K1 hK0 K0
       first
         | exact ⟨rfl, rfl⟩
         | exact ⟨boolE (decide_eq_true (by omega)), rfl⟩
       )
    ·skip
     first
      | (exfalso; first | omega | contradiction | (clear hK7 K7; clear hK6 K6; clear hK5 K5; clear hK4 K4; clear hK2 K2; clear hK1 K1; clear hK0 K0; simp at *; done))
      | (
       refine RL.p T ?_
       refine RL.p T ?_
       refine RL.p T ?_
       refine RL.p T ?_
       refine RL.p T ?_
       refine RL.sp 39 (fun hs1 => ?_) (fun hs1 => ?_)
       ·skip
        first
         | (exfalso; first | omega | contradiction | (clear hK7 K7; clear hK6 K6; clear hK5 K5; clear hK4 K4; clear hK2 K2; clear hK1 K1; clear hK0 K0; simp at *; done))
         | (
          refine RL.guard_no rfl rfl rfl ?_
          refine RL.guard_no rfl rfl rfl ?_
          refine RL.guard_no rfl rfl rfl ?_
          refine RL.guard_no rfl rfl rfl ?_
          refine RL.p T ?_
          refine RL.nil _ _ _ _ ?_
          refine hK7 _ _ _ ?_
          refine SW.cond_t rfl ?_
          refine SW.seq_k fun K9 hK9 => ?_
          refine SW.region _ _ _ _ ?_
          refine RL.p T ?_
          refine RL.nil _ _ _ _ ?_
          refine hK9 _ _ _ ?_
          refine SW.ret ?_
          refine retQ.rr (H) ?_
          clear hK9 K9 hK7 K7 hK6 K6 hK5 K5 hK4 K4 hK2 K2 hK1 K1 hK0 K0
          first
            | exact ⟨rfl, rfl⟩
            | exact ⟨boolE (decide_eq_true (by omega)), rfl⟩
          )
       ·skip
        first
         | (exfalso; first | omega | contradiction | (clear hK7 K7; clear hK6 K6; clear hK5 K5; clear hK4 K4; clear hK2 K2; clear hK1 K1; clear hK0 K0; simp at *; done))
         | (
          refine RL.p T ?_
          refine RL.lv1 T ?_
          refine RL.p T ?_
          refine RL.p T ?_
          refine RL.p T ?_
          refine RL.nil _ _ _ _ ?_
          refine hK7 _ _ _ ?_
          refine SW.cs (fun hc1 => ?_) (fun hc1 => ?_)
          ·skip
           first
            | (exfalso; first | omega | contradiction | (clear hK7 K7; clear hK6 K6; clear hK5 K5; clear hK4 K4; clear hK2 K2; clear hK1 K1; clear hK0 K0; simp at *; done))
            | (
             refine SW.seq_k fun K10 hK10 => ?_
             refine SW.region _ _ _ _ ?_
             refine RL.p T ?_
             refine RL.nil _ _ _ _ ?_
             refine hK10 _ _ _ ?_
             refine SW.ret ?_
             refine retQ.rr (H) ?_
             clear hK10 K10 hK7 K7 hK6 K6 hK5 K5 hK4 K4 hK2 K2 hK1 K1 hK0 K0
             first
               | exact ⟨rfl, rfl⟩
               | exact ⟨boolE (decide_eq_true (by omega)), rfl⟩
             )
          ·skip
           first
            | (exfalso; first | omega | contradiction | (clear hK7 K7; clear hK6 K6; clear hK5 K5; clear hK4 K4; clear hK2 K2; clear hK1 K1; clear hK0 K0; simp at *; done))
            | (
             refine SW.skip ?_
             refine hK6 _ _ _ ?_
             refine SW.seq_k fun K11 hK11 => ?_
             refine SW.seq_k fun K12 hK12 => ?_
             refine SW.nilrow 39 2 ?_
             have hz0 : usedM (mg []) = 0 := rfl
             refine SW.region _ _ _ _ ?_
             refine RL.p T ?_
             refine RL.c fun7 (fun hs => SC.wk (tickV b room wait 0 0 none 0 0 [] rfl rfl (by omega) (by simp) (by omega) (by omega) (by omega) (by omega) (H := .var b5_1 25 (PdC p) :: H))) ?_
             rintro _ _ ⟨D1, oa1, on1, oc1, os1, la1, ln1, lc1, l1, age1, us1, rfl, e, hon1, hln1, hus1, hos1, hl1, hag1, hoq1, hly1⟩; obtain rfl := e.symm
             obtain rfl : l1 = [] := mg_nil.1 hl1
             obtain rfl : ln1 = 0 := hln1
             obtain rfl : us1 = 0 := hus1
             obtain rfl : age1 = 0 := hag1
             obtain rfl : on1 = 0 := by rw [hon1, ← outD_len, hos1]; rfl
             refine RL.p T ?_
             refine RL.p T ?_
             refine RL.p T ?_
             refine RL.sp 49 (fun hs2 => ?_) (fun hs2 => ?_)
             ·skip
              first
               | (exfalso; first | omega | contradiction | (clear hK12 K12; clear hK11 K11; clear hK7 K7; clear hK6 K6; clear hK5 K5; clear hK4 K4; clear hK2 K2; clear hK1 K1; clear hK0 K0; simp at *; done))
               | (
                refine RL.guard_no rfl rfl rfl ?_
                refine RL.guard_no rfl rfl rfl ?_
                refine RL.guard_no rfl rfl rfl ?_
                refine RL.p T ?_
                refine RL.nil _ _ _ _ ?_
                refine hK12 _ _ _ ?_
                refine SW.cond_t rfl ?_
                refine SW.seq_k fun K13 hK13 => ?_
                refine SW.region _ _ _ _ ?_
                refine RL.p T ?_
                refine RL.nil _ _ _ _ ?_
                refine hK13 _ _ _ ?_
                refine SW.ret ?_
                refine retQ.rr (H) ?_
                clear hK13 K13 hK12 K12 hK11 K11 hK7 K7 hK6 K6 hK5 K5 hK4 K4 hK2 K2 hK1 K1 hK0 K0
                first
                  | exact ⟨rfl, rfl⟩
                  | exact ⟨boolE (decide_eq_true (by omega)), rfl⟩
                )
             ·skip
              first
               | (exfalso; first | omega | contradiction | (clear hK12 K12; clear hK11 K11; clear hK7 K7; clear hK6 K6; clear hK5 K5; clear hK4 K4; clear hK2 K2; clear hK1 K1; clear hK0 K0; simp at *; done))
               | (
                refine RL.p T ?_
                refine RL.c fun8 (fun hs => ageC b room wait 0 0 la1 0 lc1 (by repeat first | exact At.head _ _ | apply At.tail | apply At.app)) ?_
                rintro _ _ ⟨rfl, e⟩; obtain rfl := e.symm
                refine RL.p T ?_
                refine RL.p T ?_
                refine RL.nil _ _ _ _ ?_
                refine hK12 _ _ _ ?_
                refine SW.cs (fun hc2 => ?_) (fun hc2 => ?_)
                ·skip
                 first
                  | (exfalso; first | omega | contradiction | (clear hK12 K12; clear hK11 K11; clear hK7 K7; clear hK6 K6; clear hK5 K5; clear hK4 K4; clear hK2 K2; clear hK1 K1; clear hK0 K0; simp at *; done))
                  | (
                   refine SW.seq_k fun K14 hK14 => ?_
                   refine SW.region _ _ _ _ ?_
                   refine RL.p T ?_
                   refine RL.nil _ _ _ _ ?_
                   refine hK14 _ _ _ ?_
                   refine SW.ret ?_
                   refine retQ.rr (H) ?_
                   clear hK14 K14 hK12 K12 hK11 K11 hK7 K7 hK6 K6 hK5 K5 hK4 K4 hK2 K2 hK1 K1 hK0 K0
                   first
                     | exact ⟨rfl, rfl⟩
                     | exact ⟨boolE (decide_eq_true (by omega)), rfl⟩
                   )
                ·skip
                 first
                  | (exfalso; first | omega | contradiction | (clear hK12 K12; clear hK11 K11; clear hK7 K7; clear hK6 K6; clear hK5 K5; clear hK4 K4; clear hK2 K2; clear hK1 K1; clear hK0 K0; simp at *; done))
                  | (
                   refine SW.skip ?_
                   refine hK11 _ _ _ ?_
                   refine SW.seq_k fun K15 hK15 => ?_
                   refine SW.region _ _ _ _ ?_
                   refine RL.p T ?_
                   refine RL.q (QV.vN T rfl rfl rfl rfl rfl (by exact (rfl : _ = [_, _]))) ?_
                   refine RL.c fun9 (fun hs => SC.wk (addU p (hp _) b room wait 0 0 la1 0 lc1 [] rfl rfl (by omega) (by simp) (by omega) (by omega) (H := D1 ++ H))) ?_
                   rintro _ _ ⟨D2, oa2, on2, oc2, os2, la2, ln2, lc2, l2, age2, us2, rfl, e, hon2, hln2, hus2, hos2, hl2, hag2, hoq2, hly2⟩; obtain rfl := e.symm
                   have hE := addE_or room (mgP p)
                   have ho2 : on2 = (addOu room [] (mgP p)).length := by rw [hon2, ← outD_len, hos2]; rfl
                   have ho1 := addOu_one (room := room) (m := mgP p)
                   have hn2 : ln2 = (addLu room [] (mgP p)).length := by rw [hln2, ← mg_len, hl2]; rfl
                   have hF1 : room < wk (mgP p) → on2 = 0 ∧ ln2 = 0 := fun h => by
                     have := addOu_bad (ms := []) h
                     rw [ho2, hn2, this.1, this.2]; exact ⟨rfl, rfl⟩
                   have hF2 : 0 < on2 → ln2 = 0 := fun h => by
                     rw [hn2, addLu_out (fun e => by rw [e] at ho2; simp at ho2; omega)]; rfl
                   have hF3 : wk (mgP p) ≤ room → on2 = 0 → ln2 = 1 ∧ age2 = 0 := fun h h2 => by
                     have h3 : addOu room [] (mgP p) = [] := List.eq_nil_of_length_eq_zero (by omega)
                     rw [hn2, addLu_ok h h3, hag2, hos2]
                     exact ⟨rfl, by rw [show addOu room (mg []) (mgP p) = [] from h3]; rfl⟩
                   refine RL.p T ?_
                   refine RL.p T ?_
                   refine RL.p T ?_
                   refine RL.p T ?_
                   refine RL.p T ?_
                   refine RL.nil _ _ _ _ ?_
                   refine hK15 _ _ _ ?_
                   refine SW.seq_k fun K16 hK16 => ?_
                   refine SW.seq_k fun K17 hK17 => ?_
                   refine SW.region _ _ _ _ ?_
                   refine RL.p T ?_
                   refine RL.p T ?_
                   refine RL.nil _ _ _ _ ?_
                   refine hK17 _ _ _ ?_
                   refine SW.cs (fun hc3 => ?_) (fun hc3 => ?_)
                   ·skip
                    first
                     | (exfalso; first | omega | contradiction | (clear hK17 K17; clear hK16 K16; clear hK15 K15; clear hK12 K12; clear hK11 K11; clear hK7 K7; clear hK6 K6; clear hK5 K5; clear hK4 K4; clear hK2 K2; clear hK1 K1; clear hK0 K0; simp at *; done))
                     | (
                      refine SW.seq_k fun K18 hK18 => ?_
                      refine SW.region _ _ _ _ ?_
                      refine RL.p T ?_
                      refine RL.p T ?_
                      refine RL.p T ?_
                      refine RL.sp 64 (fun hs3 => ?_) (fun hs3 => ?_)
                      ·skip
                       first
                        | (exfalso; first | omega | contradiction | (clear hK18 K18; clear hK17 K17; clear hK16 K16; clear hK15 K15; clear hK12 K12; clear hK11 K11; clear hK7 K7; clear hK6 K6; clear hK5 K5; clear hK4 K4; clear hK2 K2; clear hK1 K1; clear hK0 K0; simp at *; done))
                        | (
                         refine RL.p T ?_
                         refine RL.p T ?_
                         refine RL.p T ?_
                         refine RL.p T ?_
                         refine RL.p T ?_
                         refine RL.sp 69 (fun hs4 => ?_) (fun hs4 => ?_)
                         ·skip
                          first
                           | (exfalso; first | omega | contradiction | (clear hK18 K18; clear hK17 K17; clear hK16 K16; clear hK15 K15; clear hK12 K12; clear hK11 K11; clear hK7 K7; clear hK6 K6; clear hK5 K5; clear hK4 K4; clear hK2 K2; clear hK1 K1; clear hK0 K0; simp at *; done))
                           | (
                            refine RL.p T ?_
                            refine RL.c fun10 (fun hs => waits b room wait age2 us2 la2 ln2 lc2 (by repeat first | exact At.head _ _ | apply At.tail | apply At.app) l2 (Rd.rowh hs (by repeat first | exact At.head _ _ | apply At.tail | apply At.app)) hln2 (by omega) (fun y hy => ((hly2 y hy).resolve_left (by simp)).sub SubL.by)) ?_
                            rintro _ _ ⟨D4, a4, c4, ws, rfl, e, hws, hwo⟩; obtain rfl := e.symm
                            refine RL.p T ?_
                            refine RL.p T ?_
                            refine RL.p T ?_
                            refine RL.p T ?_
                            refine RL.nil _ _ _ _ ?_
                            refine hK18 _ _ _ ?_
                            refine SW.ret ?_
                            refine retQ.rr (H) ?_
                            clear hK18 K18 hK17 K17 hK16 K16 hK15 K15 hK12 K12 hK11 K11 hK7 K7 hK6 K6 hK5 K5 hK4 K4 hK2 K2 hK1 K1 hK0 K0
                            first
                              | exact ⟨rfl, rfl⟩
                              | exact ⟨boolE (decide_eq_true (by omega)), rfl⟩
                            )
                         ·skip
                          first
                           | (exfalso; first | omega | contradiction | (clear hK18 K18; clear hK17 K17; clear hK16 K16; clear hK15 K15; clear hK12 K12; clear hK11 K11; clear hK7 K7; clear hK6 K6; clear hK5 K5; clear hK4 K4; clear hK2 K2; clear hK1 K1; clear hK0 K0; simp at *; done))
                           | (
                            refine RL.guard_no rfl rfl rfl ?_
                            refine RL.guard_no rfl rfl rfl ?_
                            refine RL.guard_no rfl rfl rfl ?_
                            refine RL.guard_no rfl rfl rfl ?_
                            refine RL.p T ?_
                            refine RL.p T ?_
                            refine RL.nil _ _ _ _ ?_
                            refine hK18 _ _ _ ?_
                            refine SW.ret ?_
                            refine retQ.rr (H) ?_
                            clear hK18 K18 hK17 K17 hK16 K16 hK15 K15 hK12 K12 hK11 K11 hK7 K7 hK6 K6 hK5 K5 hK4 K4 hK2 K2 hK1 K1 hK0 K0
                            first
                              | exact ⟨rfl, rfl⟩
                              | exact ⟨boolE (decide_eq_true (by omega)), rfl⟩
                            )
                         )
                      ·skip
                       first
                        | (exfalso; first | omega | contradiction | (clear hK18 K18; clear hK17 K17; clear hK16 K16; clear hK15 K15; clear hK12 K12; clear hK11 K11; clear hK7 K7; clear hK6 K6; clear hK5 K5; clear hK4 K4; clear hK2 K2; clear hK1 K1; clear hK0 K0; simp at *; done))
                        | (
                         refine RL.guard_no rfl rfl rfl ?_
                         refine RL.guard_no rfl rfl rfl ?_
                         refine RL.guard_no rfl rfl rfl ?_
                         refine RL.p T ?_
                         refine RL.p T ?_
                         refine RL.guard_no rfl rfl rfl ?_
                         refine RL.guard_no rfl rfl rfl ?_
                         refine RL.guard_no rfl rfl rfl ?_
                         refine RL.guard_no rfl rfl rfl ?_
                         refine RL.p T ?_
                         refine RL.p T ?_
                         refine RL.nil _ _ _ _ ?_
                         refine hK18 _ _ _ ?_
                         refine SW.ret ?_
                         refine retQ.rr (H) ?_
                         clear hK18 K18 hK17 K17 hK16 K16 hK15 K15 hK12 K12 hK11 K11 hK7 K7 hK6 K6 hK5 K5 hK4 K4 hK2 K2 hK1 K1 hK0 K0
                         first
                           | exact ⟨rfl, rfl⟩
                           | exact ⟨boolE (decide_eq_true (by omega)), rfl⟩
                         )
                      )
                   ·skip
                    first
                     | (exfalso; first | omega | contradiction | (clear hK17 K17; clear hK16 K16; clear hK15 K15; clear hK12 K12; clear hK11 K11; clear hK7 K7; clear hK6 K6; clear hK5 K5; clear hK4 K4; clear hK2 K2; clear hK1 K1; clear hK0 K0; simp at *; done))
                     | (
                      refine SW.skip ?_
                      refine hK16 _ _ _ ?_
                      refine SW.seq_k fun K19 hK19 => ?_
                      refine SW.seq_k fun K20 hK20 => ?_
                      refine SW.region _ _ _ _ ?_
                      refine RL.p T ?_
                      refine RL.p T ?_
                      refine RL.p T ?_
                      refine RL.nil _ _ _ _ ?_
                      refine hK20 _ _ _ ?_
                      refine SW.cs (fun hc4 => ?_) (fun hc4 => ?_)
                      ·skip
                       first
                        | (exfalso; first | omega | contradiction | (clear hK20 K20; clear hK19 K19; clear hK17 K17; clear hK16 K16; clear hK15 K15; clear hK12 K12; clear hK11 K11; clear hK7 K7; clear hK6 K6; clear hK5 K5; clear hK4 K4; clear hK2 K2; clear hK1 K1; clear hK0 K0; simp at *; done))
                        | (
                         refine SW.seq_k fun K21 hK21 => ?_
                         refine SW.region _ _ _ _ ?_
                         refine RL.p T ?_
                         refine RL.p T ?_
                         refine RL.p T ?_
                         refine RL.p T ?_
                         refine RL.sp 81 (fun hs5 => ?_) (fun hs5 => ?_)
                         ·skip
                          first
                           | (exfalso; first | omega | contradiction | (clear hK21 K21; clear hK20 K20; clear hK19 K19; clear hK17 K17; clear hK16 K16; clear hK15 K15; clear hK12 K12; clear hK11 K11; clear hK7 K7; clear hK6 K6; clear hK5 K5; clear hK4 K4; clear hK2 K2; clear hK1 K1; clear hK0 K0; simp at *; done))
                           | (
                            refine RL.p T ?_
                            refine RL.c fun10 (fun hs => waits b room wait age2 us2 la2 ln2 lc2 (by repeat first | exact At.head _ _ | apply At.tail | apply At.app) l2 (Rd.rowh hs (by repeat first | exact At.head _ _ | apply At.tail | apply At.app)) hln2 (by omega) (fun y hy => ((hly2 y hy).resolve_left (by simp)).sub SubL.by)) ?_
                            rintro _ _ ⟨D4, a4, c4, ws, rfl, e, hws, hwo⟩; obtain rfl := e.symm
                            refine RL.p T ?_
                            refine RL.p T ?_
                            refine RL.p T ?_
                            refine RL.p T ?_
                            refine RL.nil _ _ _ _ ?_
                            refine hK21 _ _ _ ?_
                            refine SW.ret ?_
                            refine retQ.rr (H) ?_
                            clear hK21 K21 hK20 K20 hK19 K19 hK17 K17 hK16 K16 hK15 K15 hK12 K12 hK11 K11 hK7 K7 hK6 K6 hK5 K5 hK4 K4 hK2 K2 hK1 K1 hK0 K0
                            first
                              | exact ⟨rfl, rfl⟩
                              | exact ⟨boolE (decide_eq_true (by omega)), rfl⟩
                            )
                         ·skip
                          first
                           | (exfalso; first | omega | contradiction | (clear hK21 K21; clear hK20 K20; clear hK19 K19; clear hK17 K17; clear hK16 K16; clear hK15 K15; clear hK12 K12; clear hK11 K11; clear hK7 K7; clear hK6 K6; clear hK5 K5; clear hK4 K4; clear hK2 K2; clear hK1 K1; clear hK0 K0; simp at *; done))
                           | (
                            refine RL.guard_no rfl rfl rfl ?_
                            refine RL.guard_no rfl rfl rfl ?_
                            refine RL.guard_no rfl rfl rfl ?_
                            refine RL.guard_no rfl rfl rfl ?_
                            refine RL.p T ?_
                            refine RL.p T ?_
                            refine RL.nil _ _ _ _ ?_
                            refine hK21 _ _ _ ?_
                            refine SW.ret ?_
                            refine retQ.rr (H) ?_
                            clear hK21 K21 hK20 K20 hK19 K19 hK17 K17 hK16 K16 hK15 K15 hK12 K12 hK11 K11 hK7 K7 hK6 K6 hK5 K5 hK4 K4 hK2 K2 hK1 K1 hK0 K0
                            first
                              | exact ⟨rfl, rfl⟩
                              | exact ⟨boolE (decide_eq_true (by omega)), rfl⟩
                            )
                         )
                      ·skip
                       first
                        | (exfalso; first | omega | contradiction | (clear hK20 K20; clear hK19 K19; clear hK17 K17; clear hK16 K16; clear hK15 K15; clear hK12 K12; clear hK11 K11; clear hK7 K7; clear hK6 K6; clear hK5 K5; clear hK4 K4; clear hK2 K2; clear hK1 K1; clear hK0 K0; simp at *; done))
                        | (
                         refine SW.skip ?_
                         refine hK19 _ _ _ ?_
                         refine SW.seq_k fun K22 hK22 => ?_
                         have hu2' : usedM (mg l2) + 8 ≤ room := by rw [hl2]; exact addLu_used (by omega) (by omega)
                         have hf3 := hF3 (by omega) (by omega)
                         refine SW.region _ _ _ _ ?_
                         refine RL.p T ?_
                         refine RL.nil _ _ _ _ ?_
                         refine hK22 _ _ _ ?_
                         refine SW.seq_k fun K23 hK23 => ?_
                         refine SW.seq_k fun K24 hK24 => ?_
                         refine SW.wk (.var b 58 [.int .i64 ((room : Nat) : Int), .int .i64 ((wait : Nat) : Int), .slice la2 ln2 lc2, .int .i64 us2, .int .i64 ((age2 : Nat) : Int)] :: .row la2 ln2 lc2 39 2 (List.flatMap PdC l2) :: (D2 ++ (D1 ++ H))) ?_
                         refine SW.region _ _ _ _ ?_
                         refine RL.p T ?_
                         refine RL.p T ?_
                         refine RL.nil _ _ _ _ ?_
                         refine hK24 _ _ _ ?_
                         refine SW.block ?_
                         refine SW.loopM (fun frB mm fr ds HH => ∃ (k : Nat) (la : Option Addr) (ln lc : Nat) (l : List Pd) (age : Nat) (used : Int) (G : List Chunk), mm = wait - k ∧ (k ≤ wait ∧ (k < wait → age = k ∧ 0 < ln) ∧ ln = l.length ∧ used = (usedM (mg l) : Nat) ∧ usedM (mg l) + 8 ≤ room ∧ (∀ y ∈ l, PdOk w0 G y)) ∧ FrIs [2, 11, 12, 13, 14, 15, 88, 89, 90, 91, 92, 93, 94, 95, 96, 97, 98, 99, 100, 101, 102, 103, 104, 105, 106, 107, 108, 109, 110, 111, 112, 113, 114, 115, 116, 117, 118, 119, 120, 121, 122, 123, 124, 125, 126, 127] frB fr [(11, .bool (decide ((k : Int) - 1 = (wait : Int) - 1))), (88, .int .i64 k)] ∧ ds = [] ∧ HH = (.var b 58 [.int .i64 ((room : Nat) : Int), .int .i64 ((wait : Nat) : Int), .slice la ln lc, .int .i64 used, .int .i64 ((age : Nat) : Int)] :: .row la ln lc 39 2 (List.flatMap PdC l) :: (G ++ H))) (n := wait - 0) ?_ ?_
                         ·exact ⟨0, la2, ln2, lc2, l2, age2, us2, D2 ++ D1, rfl, ⟨Nat.zero_le _, (fun _ => by omega), hln2, hus2, hu2', (fun y hy => ((hly2 y hy).resolve_left (by simp)).sub SubL.by)⟩, (.consB rfl (by first | rfl | assumption | exact decide_eq_true (by assumption) | exact decide_eq_false (by assumption) | exact decide_eq_decide.2 (by omega) | exact (decide_eq_false (by omega)).symm | exact decide_eq_false (by omega) | (clear hK24 K24; clear hK23 K23; clear hK22 K22; clear hK20 K20; clear hK19 K19; clear hK17 K17; clear hK16 K16; clear hK15 K15; clear hK12 K12; clear hK11 K11; clear hK7 K7; clear hK6 K6; clear hK5 K5; clear hK4 K4; clear hK2 K2; clear hK1 K1; clear hK0 K0;  simp_all)) (.consI rfl (by first | omega | rfl) (.nil (by repeat first | with_reducible exact Mx.refl | with_reducible exact Mx.mix | refine Mx.put rfl ?_ | refine Mx.upd rfl ?_ | refine Mx.updl rfl ?_ | refine Mx.fin rfl ?_ | refine Mx.inner rfl ?_ | refine Mx.none ?_ | exact Mx.refl | exact Mx.mix)))), rfl, (by simp only [List.append_assoc])⟩
                         ·rintro mm fr ds HH ⟨k, la, ln, lc, l, age, used, G, rfl, ⟨hk, hin, hln, hus, hur, hlo⟩, hFr, rfl, eHH⟩
                          obtain rfl := eHH.symm
                          obtain ⟨frU, rfl⟩ := hFr.eq
                          clear hFr
                          have hq := pd_mem (hps []) k
                          refine SW.seq_k fun K25 hK25 => ?_
                          refine SW.region _ _ _ _ ?_
                          refine RL.p T ?_
                          refine RL.nil _ _ _ _ ?_
                          refine hK25 _ _ _ ?_
                          refine SW.seq_k fun K26 hK26 => ?_
                          refine SW.cs (fun hc5 => ?_) (fun hc5 => ?_)
                          ·skip
                           first
                            | (exfalso; first | omega | contradiction | (clear hK26 K26; clear hK25 K25; clear hK24 K24; clear hK23 K23; clear hK22 K22; clear hK20 K20; clear hK19 K19; clear hK17 K17; clear hK16 K16; clear hK15 K15; clear hK12 K12; clear hK11 K11; clear hK7 K7; clear hK6 K6; clear hK5 K5; clear hK4 K4; clear hK2 K2; clear hK1 K1; clear hK0 K0; simp at *; done))
                            | (
                             refine SW.skip ?_
                             refine hK26 _ _ _ ?_
                             refine SW.seq_k fun K27 hK27 => ?_
                             refine SW.block ?_
                             refine SW.seq_k fun K28 hK28 => ?_
                             refine SW.region _ _ _ _ ?_
                             refine RL.p T ?_
                             refine RL.p T ?_
                             refine RL.nil _ _ _ _ ?_
                             refine hK28 _ _ _ ?_
                             refine SW.seq_k fun K29 hK29 => ?_
                             refine SW.seq_k fun K30 hK30 => ?_
                             refine SW.region _ _ _ _ ?_
                             refine RL.p T ?_
                             refine RL.nil _ _ _ _ ?_
                             refine hK30 _ _ _ ?_
                             refine SW.cs (fun hc6 => ?_) (fun hc6 => ?_)
                             ·skip
                              first
                               | (exfalso; first | omega | contradiction | (clear hK30 K30; clear hK29 K29; clear hK28 K28; clear hK27 K27; clear hK26 K26; clear hK25 K25; clear hK24 K24; clear hK23 K23; clear hK22 K22; clear hK20 K20; clear hK19 K19; clear hK17 K17; clear hK16 K16; clear hK15 K15; clear hK12 K12; clear hK11 K11; clear hK7 K7; clear hK6 K6; clear hK5 K5; clear hK4 K4; clear hK2 K2; clear hK1 K1; clear hK0 K0; simp at *; done))
                               | (
                                refine SW.exit ?_
                                refine hK23 _ _ _ ?_
                                refine SW.seq_k fun K31 hK31 => ?_
                                refine SW.region _ _ _ _ ?_
                                refine RL.p T ?_
                                refine RL.p T ?_
                                refine RL.nil _ _ _ _ ?_
                                refine hK31 _ _ _ ?_
                                refine SW.ret ?_
                                refine retQ.rr (H) ?_
                                clear hK31 K31 hK30 K30 hK29 K29 hK28 K28 hK27 K27 hK26 K26 hK25 K25 hK24 K24 hK23 K23 hK22 K22 hK20 K20 hK19 K19 hK17 K17 hK16 K16 hK15 K15 hK12 K12 hK11 K11 hK7 K7 hK6 K6 hK5 K5 hK4 K4 hK2 K2 hK1 K1 hK0 K0
                                first
                                  | exact ⟨rfl, rfl⟩
                                  | exact ⟨boolE (decide_eq_true (by omega)), rfl⟩
                                )
                             ·skip
                              first
                               | (exfalso; first | omega | contradiction | (clear hK30 K30; clear hK29 K29; clear hK28 K28; clear hK27 K27; clear hK26 K26; clear hK25 K25; clear hK24 K24; clear hK23 K23; clear hK22 K22; clear hK20 K20; clear hK19 K19; clear hK17 K17; clear hK16 K16; clear hK15 K15; clear hK12 K12; clear hK11 K11; clear hK7 K7; clear hK6 K6; clear hK5 K5; clear hK4 K4; clear hK2 K2; clear hK1 K1; clear hK0 K0; simp at *; done))
                               | (
                                refine SW.skip ?_
                                refine hK29 _ _ _ ?_
                                refine SW.seq_k fun K32 hK32 => ?_
                                refine SW.seq_k fun K33 hK33 => ?_
                                refine SW.region _ _ _ _ ?_
                                refine RL.p T ?_
                                refine RL.p T ?_
                                refine RL.p T ?_
                                refine RL.p T ?_
                                refine RL.nil _ _ _ _ ?_
                                refine hK33 _ _ _ ?_
                                refine SW.cs (fun hc7 => ?_) (fun hc7 => ?_)
                                ·skip
                                 first
                                  | (exfalso; first | omega | contradiction | (clear hK33 K33; clear hK32 K32; clear hK30 K30; clear hK29 K29; clear hK28 K28; clear hK27 K27; clear hK26 K26; clear hK25 K25; clear hK24 K24; clear hK23 K23; clear hK22 K22; clear hK20 K20; clear hK19 K19; clear hK17 K17; clear hK16 K16; clear hK15 K15; clear hK12 K12; clear hK11 K11; clear hK7 K7; clear hK6 K6; clear hK5 K5; clear hK4 K4; clear hK2 K2; clear hK1 K1; clear hK0 K0; simp at *; done))
                                  | (
                                   refine SW.seq_k fun K34 hK34 => ?_
                                   refine SW.region _ _ _ _ ?_
                                   refine RL.p T ?_
                                   refine RL.p T ?_
                                   refine RL.p T ?_
                                   refine RL.ix T ?_ (hR := fun hs => (hB _))
                                   refine RL.leN T ?_ (hR := fun hs => (hB _)) (hvs := (by exact (rfl : _ = [_, _])))
                                   refine RL.c fun9 (fun hs => SC.wk (addU (ps.getD k default) (pd_mem (hps _) k) b room wait age used la ln lc l hln hus (by omega) (fun y hy => (hlo y hy).sub SubL.by) (by omega) hur (H := G ++ H))) ?_
                                   rintro _ _ ⟨D3, oa3, on3, oc3, os3, la3, ln3, lc3, l3, age3, us3, rfl, e, hon3, hln3, hus3, hos3, hl3, hag3, hoq3, hly3⟩; obtain rfl := e.symm
                                   have ho3 : on3 = (addOu room (mg l) (mgP (ps.getD k default))).length := by rw [hon3, ← outD_len, hos3]
                                   have hur3 : usedM (mg l3) + 8 ≤ room := by rw [hl3]; exact addLu_used (by omega) hur
                                   have hin3 : on3 = 0 → age3 = k ∧ 0 < ln3 := fun h => by
                                     have h3 : addOu room (mg l) (mgP (ps.getD k default)) = [] := List.eq_nil_of_length_eq_zero (by omega)
                                     have h4 := hin (by omega)
                                     have h5 := mg_len l
                                     refine ⟨by rw [hag3, hos3, h3]; exact h4.1, ?_⟩
                                     rw [hln3, ← mg_len, hl3]
                                     rcases addOu_nil hur h3 with e | e <;> rw [e]
                                     · simp
                                     · omega
                                   have hlo3 : ∀ y ∈ l3, PdOk w0 (D3 ++ G) y := pdmix hlo hly3
                                   refine RL.p T ?_
                                   refine RL.p T ?_
                                   refine RL.p T ?_
                                   refine RL.p T ?_
                                   refine RL.p T ?_
                                   refine RL.nil _ _ _ _ ?_
                                   refine hK34 _ _ _ ?_
                                   refine SW.region _ _ _ _ ?_
                                   refine RL.p T ?_
                                   refine RL.p T ?_
                                   refine RL.sp 106 (fun hs6 => ?_) (fun hs6 => ?_)
                                   ·skip
                                    first
                                     | (exfalso; first | omega | contradiction | (clear hK34 K34; clear hK33 K33; clear hK32 K32; clear hK30 K30; clear hK29 K29; clear hK28 K28; clear hK27 K27; clear hK26 K26; clear hK25 K25; clear hK24 K24; clear hK23 K23; clear hK22 K22; clear hK20 K20; clear hK19 K19; clear hK17 K17; clear hK16 K16; clear hK15 K15; clear hK12 K12; clear hK11 K11; clear hK7 K7; clear hK6 K6; clear hK5 K5; clear hK4 K4; clear hK2 K2; clear hK1 K1; clear hK0 K0; simp at *; done))
                                     | (
                                      refine RL.guard_no rfl rfl rfl ?_
                                      refine RL.guard_no rfl rfl rfl ?_
                                      refine RL.guard_no rfl rfl rfl ?_
                                      refine RL.p T ?_
                                      refine RL.p T ?_
                                      refine RL.nil _ _ _ _ ?_
                                      refine hK32 _ _ _ ?_
                                      refine SW.seq_k fun K35 hK35 => ?_
                                      refine SW.seq_k fun K36 hK36 => ?_
                                      refine SW.region _ _ _ _ ?_
                                      refine RL.p T ?_
                                      refine RL.nil _ _ _ _ ?_
                                      refine hK36 _ _ _ ?_
                                      refine SW.cond_t rfl ?_
                                      refine SW.exit ?_
                                      refine hK23 _ _ _ ?_
                                      refine SW.seq_k fun K37 hK37 => ?_
                                      refine SW.region _ _ _ _ ?_
                                      refine RL.p T ?_
                                      refine RL.p T ?_
                                      refine RL.nil _ _ _ _ ?_
                                      refine hK37 _ _ _ ?_
                                      refine SW.ret ?_
                                      refine retQ.rr (H) ?_
                                      clear hK37 K37 hK36 K36 hK35 K35 hK34 K34 hK33 K33 hK32 K32 hK30 K30 hK29 K29 hK28 K28 hK27 K27 hK26 K26 hK25 K25 hK24 K24 hK23 K23 hK22 K22 hK20 K20 hK19 K19 hK17 K17 hK16 K16 hK15 K15 hK12 K12 hK11 K11 hK7 K7 hK6 K6 hK5 K5 hK4 K4 hK2 K2 hK1 K1 hK0 K0
                                      first
                                        | exact ⟨rfl, rfl⟩
                                        | exact ⟨boolE (decide_eq_true (by omega)), rfl⟩
                                      )
                                   ·skip
                                    first
                                     | (exfalso; first | omega | contradiction | (clear hK34 K34; clear hK33 K33; clear hK32 K32; clear hK30 K30; clear hK29 K29; clear hK28 K28; clear hK27 K27; clear hK26 K26; clear hK25 K25; clear hK24 K24; clear hK23 K23; clear hK22 K22; clear hK20 K20; clear hK19 K19; clear hK17 K17; clear hK16 K16; clear hK15 K15; clear hK12 K12; clear hK11 K11; clear hK7 K7; clear hK6 K6; clear hK5 K5; clear hK4 K4; clear hK2 K2; clear hK1 K1; clear hK0 K0; simp at *; done))
                                     | (
                                      refine RL.p T ?_
                                      refine RL.p T ?_
                                      refine RL.p T ?_
                                      refine RL.p T ?_
                                      refine RL.p T ?_
                                      refine RL.nil _ _ _ _ ?_
                                      refine hK32 _ _ _ ?_
                                      refine SW.seq_k fun K38 hK38 => ?_
                                      refine SW.seq_k fun K39 hK39 => ?_
                                      refine SW.region _ _ _ _ ?_
                                      refine RL.p T ?_
                                      refine RL.nil _ _ _ _ ?_
                                      refine hK39 _ _ _ ?_
                                      refine SW.cs (fun hc8 => ?_) (fun hc8 => ?_)
                                      ·skip
                                       first
                                        | (exfalso; first | omega | contradiction | (clear hK39 K39; clear hK38 K38; clear hK34 K34; clear hK33 K33; clear hK32 K32; clear hK30 K30; clear hK29 K29; clear hK28 K28; clear hK27 K27; clear hK26 K26; clear hK25 K25; clear hK24 K24; clear hK23 K23; clear hK22 K22; clear hK20 K20; clear hK19 K19; clear hK17 K17; clear hK16 K16; clear hK15 K15; clear hK12 K12; clear hK11 K11; clear hK7 K7; clear hK6 K6; clear hK5 K5; clear hK4 K4; clear hK2 K2; clear hK1 K1; clear hK0 K0; simp at *; done))
                                        | (
                                         refine SW.exit ?_
                                         refine hK23 _ _ _ ?_
                                         refine SW.seq_k fun K40 hK40 => ?_
                                         refine SW.region _ _ _ _ ?_
                                         refine RL.p T ?_
                                         refine RL.p T ?_
                                         refine RL.nil _ _ _ _ ?_
                                         refine hK40 _ _ _ ?_
                                         refine SW.ret ?_
                                         refine retQ.rr (H) ?_
                                         clear hK40 K40 hK39 K39 hK38 K38 hK34 K34 hK33 K33 hK32 K32 hK30 K30 hK29 K29 hK28 K28 hK27 K27 hK26 K26 hK25 K25 hK24 K24 hK23 K23 hK22 K22 hK20 K20 hK19 K19 hK17 K17 hK16 K16 hK15 K15 hK12 K12 hK11 K11 hK7 K7 hK6 K6 hK5 K5 hK4 K4 hK2 K2 hK1 K1 hK0 K0
                                         first
                                           | exact ⟨rfl, rfl⟩
                                           | exact ⟨boolE (decide_eq_true (by omega)), rfl⟩
                                         )
                                      ·skip
                                       first
                                        | (exfalso; first | omega | contradiction | (clear hK39 K39; clear hK38 K38; clear hK34 K34; clear hK33 K33; clear hK32 K32; clear hK30 K30; clear hK29 K29; clear hK28 K28; clear hK27 K27; clear hK26 K26; clear hK25 K25; clear hK24 K24; clear hK23 K23; clear hK22 K22; clear hK20 K20; clear hK19 K19; clear hK17 K17; clear hK16 K16; clear hK15 K15; clear hK12 K12; clear hK11 K11; clear hK7 K7; clear hK6 K6; clear hK5 K5; clear hK4 K4; clear hK2 K2; clear hK1 K1; clear hK0 K0; simp at *; done))
                                        | (
                                         refine SW.skip ?_
                                         refine hK38 _ _ _ ?_
                                         refine SW.seq_k fun K41 hK41 => ?_
                                         refine SW.seq_k fun K42 hK42 => ?_
                                         refine SW.region _ _ _ _ ?_
                                         refine RL.p T ?_
                                         refine RL.c fun8 (fun hs => (by first | exact ageC b room wait age3 us3 la3 ln3 lc3 (by repeat first | exact At.head _ _ | apply At.tail | apply At.app) | exact ageC b room wait age used la ln lc (by repeat first | exact At.head _ _ | apply At.tail | apply At.app))) ?_
                                         rintro _ _ ⟨rfl, e⟩; obtain rfl := e.symm
                                         refine RL.p T ?_
                                         refine RL.p T ?_
                                         refine RL.nil _ _ _ _ ?_
                                         refine hK42 _ _ _ ?_
                                         refine SW.cs (fun hc9 => ?_) (fun hc9 => ?_)
                                         ·skip
                                          first
                                           | (exfalso; first | omega | contradiction | (clear hK42 K42; clear hK41 K41; clear hK39 K39; clear hK38 K38; clear hK34 K34; clear hK33 K33; clear hK32 K32; clear hK30 K30; clear hK29 K29; clear hK28 K28; clear hK27 K27; clear hK26 K26; clear hK25 K25; clear hK24 K24; clear hK23 K23; clear hK22 K22; clear hK20 K20; clear hK19 K19; clear hK17 K17; clear hK16 K16; clear hK15 K15; clear hK12 K12; clear hK11 K11; clear hK7 K7; clear hK6 K6; clear hK5 K5; clear hK4 K4; clear hK2 K2; clear hK1 K1; clear hK0 K0; simp at *; done))
                                           | (
                                            refine SW.seq_k fun K43 hK43 => ?_
                                            refine SW.region _ _ _ _ ?_
                                            refine RL.p T ?_
                                            refine RL.nil _ _ _ _ ?_
                                            refine hK43 _ _ _ ?_
                                            refine SW.ret ?_
                                            refine retQ.rr (H) ?_
                                            clear hK43 K43 hK42 K42 hK41 K41 hK39 K39 hK38 K38 hK34 K34 hK33 K33 hK32 K32 hK30 K30 hK29 K29 hK28 K28 hK27 K27 hK26 K26 hK25 K25 hK24 K24 hK23 K23 hK22 K22 hK20 K20 hK19 K19 hK17 K17 hK16 K16 hK15 K15 hK12 K12 hK11 K11 hK7 K7 hK6 K6 hK5 K5 hK4 K4 hK2 K2 hK1 K1 hK0 K0
                                            first
                                              | exact ⟨rfl, rfl⟩
                                              | exact ⟨boolE (decide_eq_true (by omega)), rfl⟩
                                            )
                                         ·skip
                                          first
                                           | (exfalso; first | omega | contradiction | (clear hK42 K42; clear hK41 K41; clear hK39 K39; clear hK38 K38; clear hK34 K34; clear hK33 K33; clear hK32 K32; clear hK30 K30; clear hK29 K29; clear hK28 K28; clear hK27 K27; clear hK26 K26; clear hK25 K25; clear hK24 K24; clear hK23 K23; clear hK22 K22; clear hK20 K20; clear hK19 K19; clear hK17 K17; clear hK16 K16; clear hK15 K15; clear hK12 K12; clear hK11 K11; clear hK7 K7; clear hK6 K6; clear hK5 K5; clear hK4 K4; clear hK2 K2; clear hK1 K1; clear hK0 K0; simp at *; done))
                                           | (
                                            refine SW.skip ?_
                                            refine hK41 _ _ _ ?_
                                            refine SW.seq_k fun K44 hK44 => ?_
                                            refine SW.region _ _ _ _ ?_
                                            refine RL.p T ?_
                                            refine RL.c fun7 (fun hs => SC.wk (tickV b room wait age3 us3 la3 ln3 lc3 l3 hln3 hus3 (by omega) (fun y hy => (hlo3 y hy).sub SubL.by) (by omega) (by omega) (by omega) (by omega) (H := D3 ++ (G ++ H)))) ?_
                                            rintro _ _ ⟨D4, oa4, on4, oc4, os4, la4, ln4, lc4, l4, age4, us4, rfl, e, hon4, hln4, hus4, hos4, hl4, hag4, hoq4, hly4⟩; obtain rfl := e.symm
                                            have ho4 : on4 = (tickO wait (mg l3) age3).length := by rw [hon4, ← outD_len, hos4]
                                            have hne : mg l3 ≠ [] := fun e => by
                                              have h9 := congrArg List.length e
                                              rw [mg_len] at h9
                                              have h8 : ([] : List Mg).length = 0 := rfl
                                              have := hin3 (by omega); omega
                                            have htk := tick_ne (wait := wait) (age := age3) hne
                                            have hur4 : usedM (mg l4) + 8 ≤ room := by rw [hl4]; exact tickL_used (by omega) hur3
                                            have hin4 : k + 1 < wait → age4 = k + 1 ∧ 0 < ln4 := fun h => by
                                              rcases htk with ⟨_, _, h1, h2⟩ | ⟨_, h1⟩
                                              · refine ⟨by rw [hag4, h2]; omega, ?_⟩
                                                rw [hln4, ← mg_len, hl4, h1, mg_len]; omega
                                              · omega
                                            have hc4 : (0 < (on4 : Int)) ↔ ((k : Int) = (wait : Int) - 1) := by
                                              rcases htk with ⟨h1, h2, _⟩ | ⟨h1, h2⟩
                                              · rw [h1] at ho4; simp at ho4; omega
                                              · omega
                                            have hlo4 := pdmix hlo3 hly4
                                            refine RL.p T ?_
                                            refine RL.nil _ _ _ _ ?_
                                            refine hK44 _ _ _ ?_
                                            refine SW.seq_k fun K45 hK45 => ?_
                                            refine SW.region _ _ _ _ ?_
                                            refine RL.p T ?_
                                            refine RL.p T ?_
                                            refine RL.p T ?_
                                            rw [show decide (0 < (on4 : Int)) = decide ((k : Int) = (wait : Int) - 1) from decide_eq_decide.2 hc4]
                                            refine RL.p T ?_
                                            refine RL.nil _ _ _ _ ?_
                                            refine hK45 _ _ _ ?_
                                            refine SW.seq_k fun K46 hK46 => ?_
                                            refine SW.region _ _ _ _ ?_
                                            refine RL.p T ?_
                                            refine RL.p T ?_
                                            refine RL.p T ?_
                                            first | refine RL.ar ?_ | refine RL.p T ?_
                                            refine RL.p T ?_
                                            refine RL.p T ?_
                                            refine RL.nil _ _ _ _ ?_
                                            refine hK46 _ _ _ ?_
                                            refine SW.cs (fun hc10 => ?_) (fun hc10 => ?_)
                                            ·skip
                                             first
                                              | (exfalso; first | omega | contradiction | (clear hK46 K46; clear hK45 K45; clear hK44 K44; clear hK42 K42; clear hK41 K41; clear hK39 K39; clear hK38 K38; clear hK34 K34; clear hK33 K33; clear hK32 K32; clear hK30 K30; clear hK29 K29; clear hK28 K28; clear hK27 K27; clear hK26 K26; clear hK25 K25; clear hK24 K24; clear hK23 K23; clear hK22 K22; clear hK20 K20; clear hK19 K19; clear hK17 K17; clear hK16 K16; clear hK15 K15; clear hK12 K12; clear hK11 K11; clear hK7 K7; clear hK6 K6; clear hK5 K5; clear hK4 K4; clear hK2 K2; clear hK1 K1; clear hK0 K0; simp at *; done))
                                              | (
                                               refine SW.seq_k fun K47 hK47 => ?_
                                               refine SW.region _ _ _ _ ?_
                                               refine RL.p T ?_
                                               refine RL.nil _ _ _ _ ?_
                                               refine hK47 _ _ _ ?_
                                               refine SW.ret ?_
                                               refine retQ.rr (H) ?_
                                               clear hK47 K47 hK46 K46 hK45 K45 hK44 K44 hK42 K42 hK41 K41 hK39 K39 hK38 K38 hK34 K34 hK33 K33 hK32 K32 hK30 K30 hK29 K29 hK28 K28 hK27 K27 hK26 K26 hK25 K25 hK24 K24 hK23 K23 hK22 K22 hK20 K20 hK19 K19 hK17 K17 hK16 K16 hK15 K15 hK12 K12 hK11 K11 hK7 K7 hK6 K6 hK5 K5 hK4 K4 hK2 K2 hK1 K1 hK0 K0
                                               first
                                                 | exact ⟨rfl, rfl⟩
                                                 | exact ⟨boolE (decide_eq_true (by omega)), rfl⟩
                                               )
                                            ·skip
                                             first
                                              | (exfalso; first | omega | contradiction | (clear hK46 K46; clear hK45 K45; clear hK44 K44; clear hK42 K42; clear hK41 K41; clear hK39 K39; clear hK38 K38; clear hK34 K34; clear hK33 K33; clear hK32 K32; clear hK30 K30; clear hK29 K29; clear hK28 K28; clear hK27 K27; clear hK26 K26; clear hK25 K25; clear hK24 K24; clear hK23 K23; clear hK22 K22; clear hK20 K20; clear hK19 K19; clear hK17 K17; clear hK16 K16; clear hK15 K15; clear hK12 K12; clear hK11 K11; clear hK7 K7; clear hK6 K6; clear hK5 K5; clear hK4 K4; clear hK2 K2; clear hK1 K1; clear hK0 K0; simp at *; done))
                                              | (
                                               refine SW.skip ?_
                                               refine hK27 _ _ _ ?_
                                               first | refine SW.wk (.var b 58 [.int .i64 ((room : Nat) : Int), .int .i64 ((wait : Nat) : Int), .slice la4 ln4 lc4, .int .i64 us4, .int .i64 ((age4 : Nat) : Int)] :: .row la4 ln4 lc4 39 2 (List.flatMap PdC l4) :: ((D4 ++ (D3 ++ G)) ++ H)) ?_ | refine SW.wk (.var b 58 [.int .i64 ((room : Nat) : Int), .int .i64 ((wait : Nat) : Int), .slice la4 ln4 lc4, .int .i64 us4, .int .i64 ((age4 : Nat) : Int)] :: .row la4 ln4 lc4 39 2 (List.flatMap PdC l4) :: ((D4 ++ G) ++ H)) ?_
                                               refine SW.region _ _ _ _ ?_
                                               first | refine RL.ar ?_ | refine RL.p T ?_
                                               refine RL.p T ?_
                                               refine RL.nil _ _ _ _ ?_
                                               first
                                                 | exact ⟨wait - (k + 1), (by omega), k + 1, la4, ln4, lc4, l4, age4, us4, D4 ++ (D3 ++ G), (by rfl), ⟨by omega, hin4, hln4, hus4, hur4, hlo4⟩, (.consB rfl (by first | rfl | assumption | exact decide_eq_true (by assumption) | exact decide_eq_false (by assumption) | exact decide_eq_decide.2 (by omega) | exact (decide_eq_false (by omega)).symm | exact decide_eq_false (by omega) | (clear hK46 K46; clear hK45 K45; clear hK44 K44; clear hK42 K42; clear hK41 K41; clear hK39 K39; clear hK38 K38; clear hK34 K34; clear hK33 K33; clear hK32 K32; clear hK30 K30; clear hK29 K29; clear hK28 K28; clear hK27 K27; clear hK26 K26; clear hK25 K25; clear hK24 K24; clear hK23 K23; clear hK22 K22; clear hK20 K20; clear hK19 K19; clear hK17 K17; clear hK16 K16; clear hK15 K15; clear hK12 K12; clear hK11 K11; clear hK7 K7; clear hK6 K6; clear hK5 K5; clear hK4 K4; clear hK2 K2; clear hK1 K1; clear hK0 K0;  simp_all)) (.consI rfl (by first | omega | rfl) (.nil (by repeat first | with_reducible exact Mx.refl | with_reducible exact Mx.mix | refine Mx.put rfl ?_ | refine Mx.upd rfl ?_ | refine Mx.updl rfl ?_ | refine Mx.fin rfl ?_ | refine Mx.inner rfl ?_ | refine Mx.none ?_ | exact Mx.refl | exact Mx.mix)))), rfl, rfl⟩
                                                 | exact ⟨wait - (k + 1), (by omega), k + 1, la4, ln4, lc4, l4, age4, us4, D4 ++ G, (by rfl), ⟨by omega, hin4, hln4, hus4, hur4, hlo4⟩, (.consB rfl (by first | rfl | assumption | exact decide_eq_true (by assumption) | exact decide_eq_false (by assumption) | exact decide_eq_decide.2 (by omega) | exact (decide_eq_false (by omega)).symm | exact decide_eq_false (by omega) | (clear hK46 K46; clear hK45 K45; clear hK44 K44; clear hK42 K42; clear hK41 K41; clear hK39 K39; clear hK38 K38; clear hK34 K34; clear hK33 K33; clear hK32 K32; clear hK30 K30; clear hK29 K29; clear hK28 K28; clear hK27 K27; clear hK26 K26; clear hK25 K25; clear hK24 K24; clear hK23 K23; clear hK22 K22; clear hK20 K20; clear hK19 K19; clear hK17 K17; clear hK16 K16; clear hK15 K15; clear hK12 K12; clear hK11 K11; clear hK7 K7; clear hK6 K6; clear hK5 K5; clear hK4 K4; clear hK2 K2; clear hK1 K1; clear hK0 K0;  simp_all)) (.consI rfl (by first | omega | rfl) (.nil (by repeat first | with_reducible exact Mx.refl | with_reducible exact Mx.mix | refine Mx.put rfl ?_ | refine Mx.upd rfl ?_ | refine Mx.updl rfl ?_ | refine Mx.fin rfl ?_ | refine Mx.inner rfl ?_ | refine Mx.none ?_ | exact Mx.refl | exact Mx.mix)))), rfl, rfl⟩
                                               )
                                            )
                                         )
                                      )
                                   )
                                ·skip
                                 first
                                  | (exfalso; first | omega | contradiction | (clear hK33 K33; clear hK32 K32; clear hK30 K30; clear hK29 K29; clear hK28 K28; clear hK27 K27; clear hK26 K26; clear hK25 K25; clear hK24 K24; clear hK23 K23; clear hK22 K22; clear hK20 K20; clear hK19 K19; clear hK17 K17; clear hK16 K16; clear hK15 K15; clear hK12 K12; clear hK11 K11; clear hK7 K7; clear hK6 K6; clear hK5 K5; clear hK4 K4; clear hK2 K2; clear hK1 K1; clear hK0 K0; simp at *; done))
                                  | (
                                   refine SW.skip ?_
                                   refine hK32 _ _ _ ?_
                                   refine SW.seq_k fun K48 hK48 => ?_
                                   refine SW.seq_k fun K49 hK49 => ?_
                                   refine SW.region _ _ _ _ ?_
                                   refine RL.p T ?_
                                   refine RL.nil _ _ _ _ ?_
                                   refine hK49 _ _ _ ?_
                                   refine SW.cs (fun hc11 => ?_) (fun hc11 => ?_)
                                   ·skip
                                    first
                                     | (exfalso; first | omega | contradiction | (clear hK49 K49; clear hK48 K48; clear hK33 K33; clear hK32 K32; clear hK30 K30; clear hK29 K29; clear hK28 K28; clear hK27 K27; clear hK26 K26; clear hK25 K25; clear hK24 K24; clear hK23 K23; clear hK22 K22; clear hK20 K20; clear hK19 K19; clear hK17 K17; clear hK16 K16; clear hK15 K15; clear hK12 K12; clear hK11 K11; clear hK7 K7; clear hK6 K6; clear hK5 K5; clear hK4 K4; clear hK2 K2; clear hK1 K1; clear hK0 K0; simp at *; done))
                                     | (
                                      refine SW.exit ?_
                                      refine hK23 _ _ _ ?_
                                      refine SW.seq_k fun K50 hK50 => ?_
                                      refine SW.region _ _ _ _ ?_
                                      refine RL.p T ?_
                                      refine RL.p T ?_
                                      refine RL.nil _ _ _ _ ?_
                                      refine hK50 _ _ _ ?_
                                      refine SW.ret ?_
                                      refine retQ.rr (H) ?_
                                      clear hK50 K50 hK49 K49 hK48 K48 hK33 K33 hK32 K32 hK30 K30 hK29 K29 hK28 K28 hK27 K27 hK26 K26 hK25 K25 hK24 K24 hK23 K23 hK22 K22 hK20 K20 hK19 K19 hK17 K17 hK16 K16 hK15 K15 hK12 K12 hK11 K11 hK7 K7 hK6 K6 hK5 K5 hK4 K4 hK2 K2 hK1 K1 hK0 K0
                                      first
                                        | exact ⟨rfl, rfl⟩
                                        | exact ⟨boolE (decide_eq_true (by omega)), rfl⟩
                                      )
                                   ·skip
                                    first
                                     | (exfalso; first | omega | contradiction | (clear hK49 K49; clear hK48 K48; clear hK33 K33; clear hK32 K32; clear hK30 K30; clear hK29 K29; clear hK28 K28; clear hK27 K27; clear hK26 K26; clear hK25 K25; clear hK24 K24; clear hK23 K23; clear hK22 K22; clear hK20 K20; clear hK19 K19; clear hK17 K17; clear hK16 K16; clear hK15 K15; clear hK12 K12; clear hK11 K11; clear hK7 K7; clear hK6 K6; clear hK5 K5; clear hK4 K4; clear hK2 K2; clear hK1 K1; clear hK0 K0; simp at *; done))
                                     | (
                                      refine SW.skip ?_
                                      refine hK48 _ _ _ ?_
                                      refine SW.seq_k fun K51 hK51 => ?_
                                      refine SW.seq_k fun K52 hK52 => ?_
                                      refine SW.region _ _ _ _ ?_
                                      refine RL.p T ?_
                                      refine RL.c fun8 (fun hs => (by first | exact ageC b room wait age3 us3 la3 ln3 lc3 (by repeat first | exact At.head _ _ | apply At.tail | apply At.app) | exact ageC b room wait age used la ln lc (by repeat first | exact At.head _ _ | apply At.tail | apply At.app))) ?_
                                      rintro _ _ ⟨rfl, e⟩; obtain rfl := e.symm
                                      refine RL.p T ?_
                                      refine RL.p T ?_
                                      refine RL.nil _ _ _ _ ?_
                                      refine hK52 _ _ _ ?_
                                      refine SW.cs (fun hc12 => ?_) (fun hc12 => ?_)
                                      ·skip
                                       first
                                        | (exfalso; first | omega | contradiction | (clear hK52 K52; clear hK51 K51; clear hK49 K49; clear hK48 K48; clear hK33 K33; clear hK32 K32; clear hK30 K30; clear hK29 K29; clear hK28 K28; clear hK27 K27; clear hK26 K26; clear hK25 K25; clear hK24 K24; clear hK23 K23; clear hK22 K22; clear hK20 K20; clear hK19 K19; clear hK17 K17; clear hK16 K16; clear hK15 K15; clear hK12 K12; clear hK11 K11; clear hK7 K7; clear hK6 K6; clear hK5 K5; clear hK4 K4; clear hK2 K2; clear hK1 K1; clear hK0 K0; simp at *; done))
                                        | (
                                         refine SW.seq_k fun K53 hK53 => ?_
                                         refine SW.region _ _ _ _ ?_
                                         refine RL.p T ?_
                                         refine RL.nil _ _ _ _ ?_
                                         refine hK53 _ _ _ ?_
                                         refine SW.ret ?_
                                         refine retQ.rr (H) ?_
                                         clear hK53 K53 hK52 K52 hK51 K51 hK49 K49 hK48 K48 hK33 K33 hK32 K32 hK30 K30 hK29 K29 hK28 K28 hK27 K27 hK26 K26 hK25 K25 hK24 K24 hK23 K23 hK22 K22 hK20 K20 hK19 K19 hK17 K17 hK16 K16 hK15 K15 hK12 K12 hK11 K11 hK7 K7 hK6 K6 hK5 K5 hK4 K4 hK2 K2 hK1 K1 hK0 K0
                                         first
                                           | exact ⟨rfl, rfl⟩
                                           | exact ⟨boolE (decide_eq_true (by omega)), rfl⟩
                                         )
                                      ·skip
                                       first
                                        | (exfalso; first | omega | contradiction | (clear hK52 K52; clear hK51 K51; clear hK49 K49; clear hK48 K48; clear hK33 K33; clear hK32 K32; clear hK30 K30; clear hK29 K29; clear hK28 K28; clear hK27 K27; clear hK26 K26; clear hK25 K25; clear hK24 K24; clear hK23 K23; clear hK22 K22; clear hK20 K20; clear hK19 K19; clear hK17 K17; clear hK16 K16; clear hK15 K15; clear hK12 K12; clear hK11 K11; clear hK7 K7; clear hK6 K6; clear hK5 K5; clear hK4 K4; clear hK2 K2; clear hK1 K1; clear hK0 K0; simp at *; done))
                                        | (
                                         refine SW.skip ?_
                                         refine hK51 _ _ _ ?_
                                         refine SW.seq_k fun K54 hK54 => ?_
                                         refine SW.region _ _ _ _ ?_
                                         refine RL.p T ?_
                                         refine RL.c fun7 (fun hs => SC.wk (tickV b room wait age used la ln lc l hln hus (by omega) (fun y hy => (hlo y hy).sub SubL.by) (by omega) (by omega) (by omega) (by omega) (H := G ++ H))) ?_
                                         rintro _ _ ⟨D4, oa4, on4, oc4, os4, la4, ln4, lc4, l4, age4, us4, rfl, e, hon4, hln4, hus4, hos4, hl4, hag4, hoq4, hly4⟩; obtain rfl := e.symm
                                         have ho4 : on4 = (tickO wait (mg l) age).length := by rw [hon4, ← outD_len, hos4]
                                         have hne : mg l ≠ [] := fun e => by
                                           have h9 := congrArg List.length e
                                           rw [mg_len] at h9
                                           have h8 : ([] : List Mg).length = 0 := rfl
                                           have := hin (by omega); omega
                                         have htk := tick_ne (wait := wait) (age := age) hne
                                         have hur4 : usedM (mg l4) + 8 ≤ room := by rw [hl4]; exact tickL_used (by omega) hur
                                         have hin4 : k + 1 < wait → age4 = k + 1 ∧ 0 < ln4 := fun h => by
                                           rcases htk with ⟨_, _, h1, h2⟩ | ⟨_, h1⟩
                                           · refine ⟨by rw [hag4, h2]; omega, ?_⟩
                                             rw [hln4, ← mg_len, hl4, h1, mg_len]; omega
                                           · omega
                                         have hc4 : (0 < (on4 : Int)) ↔ ((k : Int) = (wait : Int) - 1) := by
                                           rcases htk with ⟨h1, h2, _⟩ | ⟨h1, h2⟩
                                           · rw [h1] at ho4; simp at ho4; omega
                                           · omega
                                         have hlo4 := pdmix hlo hly4
                                         refine RL.p T ?_
                                         refine RL.nil _ _ _ _ ?_
                                         refine hK54 _ _ _ ?_
                                         refine SW.seq_k fun K55 hK55 => ?_
                                         refine SW.region _ _ _ _ ?_
                                         refine RL.p T ?_
                                         refine RL.p T ?_
                                         refine RL.p T ?_
                                         rw [show decide (0 < (on4 : Int)) = decide ((k : Int) = (wait : Int) - 1) from decide_eq_decide.2 hc4]
                                         refine RL.p T ?_
                                         refine RL.nil _ _ _ _ ?_
                                         refine hK55 _ _ _ ?_
                                         refine SW.seq_k fun K56 hK56 => ?_
                                         refine SW.region _ _ _ _ ?_
                                         refine RL.p T ?_
                                         refine RL.p T ?_
                                         refine RL.p T ?_
                                         first | refine RL.ar ?_ | refine RL.p T ?_
                                         refine RL.p T ?_
                                         refine RL.p T ?_
                                         refine RL.nil _ _ _ _ ?_
                                         refine hK56 _ _ _ ?_
                                         refine SW.cs (fun hc13 => ?_) (fun hc13 => ?_)
                                         ·skip
                                          first
                                           | (exfalso; first | omega | contradiction | (clear hK56 K56; clear hK55 K55; clear hK54 K54; clear hK52 K52; clear hK51 K51; clear hK49 K49; clear hK48 K48; clear hK33 K33; clear hK32 K32; clear hK30 K30; clear hK29 K29; clear hK28 K28; clear hK27 K27; clear hK26 K26; clear hK25 K25; clear hK24 K24; clear hK23 K23; clear hK22 K22; clear hK20 K20; clear hK19 K19; clear hK17 K17; clear hK16 K16; clear hK15 K15; clear hK12 K12; clear hK11 K11; clear hK7 K7; clear hK6 K6; clear hK5 K5; clear hK4 K4; clear hK2 K2; clear hK1 K1; clear hK0 K0; simp at *; done))
                                           | (
                                            refine SW.seq_k fun K57 hK57 => ?_
                                            refine SW.region _ _ _ _ ?_
                                            refine RL.p T ?_
                                            refine RL.nil _ _ _ _ ?_
                                            refine hK57 _ _ _ ?_
                                            refine SW.ret ?_
                                            refine retQ.rr (H) ?_
                                            clear hK57 K57 hK56 K56 hK55 K55 hK54 K54 hK52 K52 hK51 K51 hK49 K49 hK48 K48 hK33 K33 hK32 K32 hK30 K30 hK29 K29 hK28 K28 hK27 K27 hK26 K26 hK25 K25 hK24 K24 hK23 K23 hK22 K22 hK20 K20 hK19 K19 hK17 K17 hK16 K16 hK15 K15 hK12 K12 hK11 K11 hK7 K7 hK6 K6 hK5 K5 hK4 K4 hK2 K2 hK1 K1 hK0 K0
                                            first
                                              | exact ⟨rfl, rfl⟩
                                              | exact ⟨boolE (decide_eq_true (by omega)), rfl⟩
                                            )
                                         ·skip
                                          first
                                           | (exfalso; first | omega | contradiction | (clear hK56 K56; clear hK55 K55; clear hK54 K54; clear hK52 K52; clear hK51 K51; clear hK49 K49; clear hK48 K48; clear hK33 K33; clear hK32 K32; clear hK30 K30; clear hK29 K29; clear hK28 K28; clear hK27 K27; clear hK26 K26; clear hK25 K25; clear hK24 K24; clear hK23 K23; clear hK22 K22; clear hK20 K20; clear hK19 K19; clear hK17 K17; clear hK16 K16; clear hK15 K15; clear hK12 K12; clear hK11 K11; clear hK7 K7; clear hK6 K6; clear hK5 K5; clear hK4 K4; clear hK2 K2; clear hK1 K1; clear hK0 K0; simp at *; done))
                                           | (
                                            refine SW.skip ?_
                                            refine hK27 _ _ _ ?_
                                            first | refine SW.wk (.var b 58 [.int .i64 ((room : Nat) : Int), .int .i64 ((wait : Nat) : Int), .slice la4 ln4 lc4, .int .i64 us4, .int .i64 ((age4 : Nat) : Int)] :: .row la4 ln4 lc4 39 2 (List.flatMap PdC l4) :: ((D4 ++ (D3 ++ G)) ++ H)) ?_ | refine SW.wk (.var b 58 [.int .i64 ((room : Nat) : Int), .int .i64 ((wait : Nat) : Int), .slice la4 ln4 lc4, .int .i64 us4, .int .i64 ((age4 : Nat) : Int)] :: .row la4 ln4 lc4 39 2 (List.flatMap PdC l4) :: ((D4 ++ G) ++ H)) ?_
                                            refine SW.region _ _ _ _ ?_
                                            first | refine RL.ar ?_ | refine RL.p T ?_
                                            refine RL.p T ?_
                                            refine RL.nil _ _ _ _ ?_
                                            first
                                              | exact ⟨wait - (k + 1), (by omega), k + 1, la4, ln4, lc4, l4, age4, us4, D4 ++ (D3 ++ G), (by rfl), ⟨by omega, hin4, hln4, hus4, hur4, hlo4⟩, (.consB rfl (by first | rfl | assumption | exact decide_eq_true (by assumption) | exact decide_eq_false (by assumption) | exact decide_eq_decide.2 (by omega) | exact (decide_eq_false (by omega)).symm | exact decide_eq_false (by omega) | (clear hK56 K56; clear hK55 K55; clear hK54 K54; clear hK52 K52; clear hK51 K51; clear hK49 K49; clear hK48 K48; clear hK33 K33; clear hK32 K32; clear hK30 K30; clear hK29 K29; clear hK28 K28; clear hK27 K27; clear hK26 K26; clear hK25 K25; clear hK24 K24; clear hK23 K23; clear hK22 K22; clear hK20 K20; clear hK19 K19; clear hK17 K17; clear hK16 K16; clear hK15 K15; clear hK12 K12; clear hK11 K11; clear hK7 K7; clear hK6 K6; clear hK5 K5; clear hK4 K4; clear hK2 K2; clear hK1 K1; clear hK0 K0;  simp_all)) (.consI rfl (by first | omega | rfl) (.nil (by repeat first | with_reducible exact Mx.refl | with_reducible exact Mx.mix | refine Mx.put rfl ?_ | refine Mx.upd rfl ?_ | refine Mx.updl rfl ?_ | refine Mx.fin rfl ?_ | refine Mx.inner rfl ?_ | refine Mx.none ?_ | exact Mx.refl | exact Mx.mix)))), rfl, rfl⟩
                                              | exact ⟨wait - (k + 1), (by omega), k + 1, la4, ln4, lc4, l4, age4, us4, D4 ++ G, (by rfl), ⟨by omega, hin4, hln4, hus4, hur4, hlo4⟩, (.consB rfl (by first | rfl | assumption | exact decide_eq_true (by assumption) | exact decide_eq_false (by assumption) | exact decide_eq_decide.2 (by omega) | exact (decide_eq_false (by omega)).symm | exact decide_eq_false (by omega) | (clear hK56 K56; clear hK55 K55; clear hK54 K54; clear hK52 K52; clear hK51 K51; clear hK49 K49; clear hK48 K48; clear hK33 K33; clear hK32 K32; clear hK30 K30; clear hK29 K29; clear hK28 K28; clear hK27 K27; clear hK26 K26; clear hK25 K25; clear hK24 K24; clear hK23 K23; clear hK22 K22; clear hK20 K20; clear hK19 K19; clear hK17 K17; clear hK16 K16; clear hK15 K15; clear hK12 K12; clear hK11 K11; clear hK7 K7; clear hK6 K6; clear hK5 K5; clear hK4 K4; clear hK2 K2; clear hK1 K1; clear hK0 K0;  simp_all)) (.consI rfl (by first | omega | rfl) (.nil (by repeat first | with_reducible exact Mx.refl | with_reducible exact Mx.mix | refine Mx.put rfl ?_ | refine Mx.upd rfl ?_ | refine Mx.updl rfl ?_ | refine Mx.fin rfl ?_ | refine Mx.inner rfl ?_ | refine Mx.none ?_ | exact Mx.refl | exact Mx.mix)))), rfl, rfl⟩
                                            )
                                         )
                                      )
                                   )
                                )
                             )
                          ·skip
                           first
                            | (exfalso; first | omega | contradiction | (clear hK26 K26; clear hK25 K25; clear hK24 K24; clear hK23 K23; clear hK22 K22; clear hK20 K20; clear hK19 K19; clear hK17 K17; clear hK16 K16; clear hK15 K15; clear hK12 K12; clear hK11 K11; clear hK7 K7; clear hK6 K6; clear hK5 K5; clear hK4 K4; clear hK2 K2; clear hK1 K1; clear hK0 K0; simp at *; done))
                            | (
                             refine SW.exit ?_
                             refine hK23 _ _ _ ?_
                             refine SW.seq_k fun K58 hK58 => ?_
                             refine SW.region _ _ _ _ ?_
                             refine RL.p T ?_
                             refine RL.p T ?_
                             refine RL.nil _ _ _ _ ?_
                             refine hK58 _ _ _ ?_
                             refine SW.ret ?_
                             refine retQ.rr (H) ?_
                             clear hK58 K58 hK26 K26 hK25 K25 hK24 K24 hK23 K23 hK22 K22 hK20 K20 hK19 K19 hK17 K17 hK16 K16 hK15 K15 hK12 K12 hK11 K11 hK7 K7 hK6 K6 hK5 K5 hK4 K4 hK2 K2 hK1 K1 hK0 K0
                             first
                               | exact ⟨rfl, rfl⟩
                               | exact ⟨boolE (decide_eq_true (by omega)), rfl⟩
                             )
                         )
                      )
                   )
                )
             )
          )
       )
    )
theorem packWaits_bad {w0 : World} {H : List Chunk} (room wait : Int) (h : room < 8 ∨ 2048 < room ∨ wait < 1 ∨ 1000 < wait) (p : Pd) (hp : ∀ H, PdOk w0 H p) (ps : List Pd) (sr : Option Addr) (nr cr : Nat) (hB : ∀ H, Rd w0 H sr nr cr 2 (ps.flatMap PdC)) (hnr : nr = ps.length) (hmr : nr ≤ 4398046511000) (hps : ∀ H, ∀ y ∈ ps, PdOk w0 H y) : SC Try.prog w0 3 #[.agg #[.int .i64 room, .int .i64 wait, .int .u32 p.id, .slice p.a p.n p.c, .slice sr nr cr]] H (fun v H' => v = .bool true ∧ H' = H) := by
 refine SC.enter Try.func3 rfl (Nat.le_of_ble_eq_true rfl) ?_
 refine SW.seq_k fun K0 hK0 => ?_
 refine SW.region _ _ _ _ ?_
 refine RL.s ?_
 refine NV.box rfl (by exact (rfl : _ = [_, _, _, _, _])) ?_
 intro b1_0
 refine RL.p T ?_
 refine RL.nil _ _ _ _ ?_
 refine hK0 _ _ _ ?_
 refine SW.seq_k fun K1 hK1 => ?_
 refine SW.seq_k fun K2 hK2 => ?_
 refine SW.region _ _ _ _ ?_
 refine RL.c fun5 (fun hs => alive) ?_
 rintro _ _ ⟨rfl, e⟩; obtain rfl := e.symm
 refine RL.p T ?_
 refine RL.nil _ _ _ _ ?_
 refine hK2 _ _ _ ?_
 refine SW.cs (fun hc0 => ?_) (fun hc0 => ?_)
 ·skip
  first
   | (exfalso; first | omega | contradiction | (clear hK2 K2; clear hK1 K1; clear hK0 K0; simp at *; done))
   | (
    refine SW.seq_k fun K3 hK3 => ?_
    refine SW.region _ _ _ _ ?_
    refine RL.p T ?_
    refine RL.nil _ _ _ _ ?_
    refine hK3 _ _ _ ?_
    refine SW.ret ?_
    refine retQ.rr (H) ?_
    clear hK3 K3 hK2 K2 hK1 K1 hK0 K0
    exact ⟨rfl, rfl⟩
    )
 ·skip
  first
   | (exfalso; first | omega | contradiction | (clear hK2 K2; clear hK1 K1; clear hK0 K0; simp at *; done))
   | (
    refine SW.skip ?_
    refine hK1 _ _ _ ?_
    refine SW.seq_k fun K4 hK4 => ?_
    refine SW.draw [(18, 0), (19, 1), (20, 2), (21, 3), (22, 4), (23, 5), (24, 6), (25, 7), (5, 8), (3, 9), (4, 10), (6, 12)] [[], [0], [], [2], [], [4], [], [6], [], [1, 0, 8], [3, 2, 9, 1, 0, 8], [8, 5, 4, 10, 3, 2, 9, 1, 0], [7, 6, 11, 8, 5, 4, 10, 3, 2, 9, 1, 0]] mixed (by kernel_rfl) (by kernel_rfl) ?_
    refine RD.p T ?_
    refine RD.q rfl rfl (Gd.none rfl) (QV.v1 T) ?_
    refine RD.p T ?_
    refine RD.q rfl rfl (Gd.none rfl) (QV.v1 T) ?_
    refine RD.p T ?_
    refine RD.q rfl rfl (Gd.none rfl) (QV.vN T rfl rfl rfl rfl rfl (by exact (rfl : _ = [_, _]))) ?_
    refine RD.p T ?_
    refine RD.q rfl rfl (Gd.none rfl) (QV.v1 T) ?_
    refine RD.nv rfl rfl rfl (Gd.none rfl) ?_
    refine NV.alloc T rfl rfl rfl (by exact (rfl : _ = [_, _])) ?_
    intro b5_1
    refine ⟨(Stab.cons rfl (Gd.none rfl) (QV.v1 T) (Stab.cons rfl (Gd.none rfl) (pev_sound T rfl) (Stab.cons rfl (Gd.none rfl) (QV.vN T rfl rfl rfl rfl rfl rfl) (Stab.cons rfl (Gd.none rfl) (pev_sound T rfl) (Stab.cons rfl (Gd.none rfl) (QV.v1 T) (Stab.cons rfl (Gd.none rfl) (pev_sound T rfl) (Stab.cons rfl (Gd.none rfl) (QV.v1 T) (Stab.cons rfl (Gd.none rfl) (pev_sound T rfl) Stab.nil)))))))), ?_⟩
    refine RD.p T ?_
    refine RD.p T ?_
    refine RD.nv rfl rfl rfl (Gd.none rfl) ?_
    refine NV.sN T rfl rfl rfl (by exact (rfl : _ = [_, _])) (by exact (rfl : _ = [_, _])) ?_
    refine ⟨(Stab.cons rfl (Gd.none rfl) (QV.v1 T) (Stab.cons rfl (Gd.none rfl) (pev_sound T rfl) Stab.nil)), ?_⟩
    refine RD.p T ?_
    refine RD.k rfl rfl ?_
    refine hK4 _ _ _ ?_
    refine SW.seq_k fun K5 hK5 => ?_
    refine SW.region _ _ _ _ ?_
    refine RL.p T ?_
    refine RL.p T ?_
    refine RL.c fun6 (fun hs => new_bad room wait h) ?_
    rintro _ _ ⟨rfl, e⟩; obtain rfl := e.symm
    refine RL.p T ?_
    refine RL.p T ?_
    refine RL.p T ?_
    refine RL.p T ?_
    refine RL.p T ?_
    refine RL.nil _ _ _ _ ?_
    refine hK5 _ _ _ ?_
    refine SW.seq_k fun K6 hK6 => ?_
    refine SW.seq_k fun K7 hK7 => ?_
    refine SW.region _ _ _ _ ?_
    refine RL.p T ?_
    refine RL.p T ?_
    refine RL.p T ?_
    refine RL.sp 34 (fun hs0 => ?_) (fun hs0 => ?_)
    ·skip
     first
      | (exfalso; first | omega | contradiction | (clear hK7 K7; clear hK6 K6; clear hK5 K5; clear hK4 K4; clear hK2 K2; clear hK1 K1; clear hK0 K0; simp at *; done))
      | (
       refine RL.guard_no rfl rfl rfl ?_
       refine RL.guard_no rfl rfl rfl ?_
       refine RL.guard_no rfl rfl rfl ?_
       refine RL.p T ?_
       refine RL.p T ?_
       refine RL.guard_no rfl rfl rfl ?_
       refine RL.guard_no rfl rfl rfl ?_
       refine RL.guard_no rfl rfl rfl ?_
       refine RL.guard_no rfl rfl rfl ?_
       refine RL.p T ?_
       refine RL.nil _ _ _ _ ?_
       refine hK7 _ _ _ ?_
       refine SW.cond_t rfl ?_
       refine SW.seq_k fun K8 hK8 => ?_
       refine SW.region _ _ _ _ ?_
       refine RL.p T ?_
       refine RL.nil _ _ _ _ ?_
       refine hK8 _ _ _ ?_
       refine SW.ret ?_
       refine retQ.rr (H) ?_
       clear hK8 K8 hK7 K7 hK6 K6 hK5 K5 hK4 K4 hK2 K2 hK1 K1 hK0 K0
       exact ⟨rfl, rfl⟩
       )
    ·skip
     first
      | (exfalso; first | omega | contradiction | (clear hK7 K7; clear hK6 K6; clear hK5 K5; clear hK4 K4; clear hK2 K2; clear hK1 K1; clear hK0 K0; simp at *; done))
      | (
       refine RL.p T ?_
       refine RL.p T ?_
       refine RL.p T ?_
       refine RL.p T ?_
       refine RL.p T ?_
       refine RL.sp 39 (fun hs1 => ?_) (fun hs1 => ?_)
       ·skip
        first
         | (exfalso; first | omega | contradiction | (clear hK7 K7; clear hK6 K6; clear hK5 K5; clear hK4 K4; clear hK2 K2; clear hK1 K1; clear hK0 K0; simp at *; done))
         | (
          refine RL.guard_no rfl rfl rfl ?_
          refine RL.guard_no rfl rfl rfl ?_
          refine RL.guard_no rfl rfl rfl ?_
          refine RL.guard_no rfl rfl rfl ?_
          refine RL.p T ?_
          refine RL.nil _ _ _ _ ?_
          refine hK7 _ _ _ ?_
          refine SW.cond_t rfl ?_
          refine SW.seq_k fun K9 hK9 => ?_
          refine SW.region _ _ _ _ ?_
          refine RL.p T ?_
          refine RL.nil _ _ _ _ ?_
          refine hK9 _ _ _ ?_
          refine SW.ret ?_
          refine retQ.rr (H) ?_
          clear hK9 K9 hK7 K7 hK6 K6 hK5 K5 hK4 K4 hK2 K2 hK1 K1 hK0 K0
          exact ⟨rfl, rfl⟩
          )
       ·skip
        first
         | (exfalso; first | omega | contradiction | (clear hK7 K7; clear hK6 K6; clear hK5 K5; clear hK4 K4; clear hK2 K2; clear hK1 K1; clear hK0 K0; simp at *; done))
         | (
          refine RL.p T ?_
          refine RL.lv1 T ?_
          refine RL.p T ?_
          refine RL.p T ?_
          refine RL.p T ?_
          refine RL.nil _ _ _ _ ?_
          refine hK7 _ _ _ ?_
          refine SW.cs (fun hc1 => ?_) (fun hc1 => ?_)
          ·skip
           first
            | (exfalso; first | omega | contradiction | (clear hK7 K7; clear hK6 K6; clear hK5 K5; clear hK4 K4; clear hK2 K2; clear hK1 K1; clear hK0 K0; simp at *; done))
            | (
             refine SW.seq_k fun K10 hK10 => ?_
             refine SW.region _ _ _ _ ?_
             refine RL.p T ?_
             refine RL.nil _ _ _ _ ?_
             refine hK10 _ _ _ ?_
             refine SW.ret ?_
             refine retQ.rr (H) ?_
             clear hK10 K10 hK7 K7 hK6 K6 hK5 K5 hK4 K4 hK2 K2 hK1 K1 hK0 K0
             exact ⟨rfl, rfl⟩
             )
          ·skip
           exfalso; first | omega | contradiction | (clear hK7 K7; clear hK6 K6; clear hK5 K5; clear hK4 K4; clear hK2 K2; clear hK1 K1; clear hK0 K0; simp at *; done)
          )
       )
    )
theorem packWaitsI {w0 : World} {H : List Chunk} (room wait : Int) (p : Pd) (hp : ∀ H, PdOk w0 H p) (ps : List Pd) (sr : Option Addr) (nr cr : Nat) (hB : ∀ H, Rd w0 H sr nr cr 2 (ps.flatMap PdC)) (hnr : nr = ps.length) (hmr : nr ≤ 4398046511000) (hps : ∀ H, ∀ y ∈ ps, PdOk w0 H y) : SC Try.prog w0 3 #[.agg #[.int .i64 room, .int .i64 wait, .int .u32 p.id, .slice p.a p.n p.c, .slice sr nr cr]] H (fun v H' => v = .bool true ∧ H' = H) := by
  by_cases h : room < 8 ∨ 2048 < room ∨ wait < 1 ∨ 1000 < wait
  · exact packWaits_bad room wait h p hp ps sr nr cr hB hnr hmr hps
  · obtain ⟨q, rfl⟩ := Int.eq_ofNat_of_zero_le (by omega : 0 ≤ room)
    obtain ⟨u, rfl⟩ := Int.eq_ofNat_of_zero_le (by omega : 0 ≤ wait)
    exact packWaits q u (by omega) p hp ps sr nr cr hB hnr hmr hps
end Go.Proofs.Ytlgdfoniijmlbaa.M
