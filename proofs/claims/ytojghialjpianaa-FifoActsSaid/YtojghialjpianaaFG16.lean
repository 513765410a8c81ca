import Derived.Test.YtojghialjpianaaProg
import Derived.Test.YtojghialjpianaaFE16
set_option linter.unusedVariables false
set_option linter.unusedSimpArgs false
namespace Go.Proofs.Ytojghialjpianaa.M
open Go Go.Sep Go.Proofs
set_option maxRecDepth 10000
set_option maxHeartbeats 2000000
theorem rpush_bad {w0 : World} {H : List Chunk} (b : Nat) (room over : Int) (a : Option Addr) (n c : Nat) (kk : Chunk → List Chunk) (hat : At H (.var b 48 [.int .i64 room, .int .i64 over, .slice a n c]) kk) (M : List Fs) (hR : Rd w0 H a n c 11 (M.flatMap FsC)) (hn : n = M.length) (hm : n ≤ 4398046511000) (x : Fs) (hx : FsOk w0 H x) (hc : chkF x.f ≠ 0) : SC Try.prog w0 23 #[.pointer (some ⟨b, 0, none⟩), FsA x] H (fun v H' => v = .tuple #[.bool false, .int .i64 2] ∧ H' = H) := by
 refine SC.enter Try.func23 rfl (Nat.le_of_ble_eq_true rfl) ?_
 refine SW.seq_k fun K0 hK0 => ?_
 refine SW.region _ _ _ _ ?_
 refine RL.s ?_
 refine NV.box rfl (by exact (rfl : _ = [_, _, _, _, _, _, _, _, _, _, _])) ?_
 intro b3_0
 refine RL.p T ?_
 refine RL.p T ?_
 refine RL.nil _ _ _ _ ?_
 refine hK0 _ _ _ ?_
 refine SW.seq_k fun K1 hK1 => ?_
 refine SW.seq_k fun K2 hK2 => ?_
 refine SW.region _ _ _ _ ?_
 refine RL.q (QV.vN T rfl rfl rfl rfl rfl (by exact (rfl : _ = [_, _, _, _, _, _, _, _, _, _, _]))) ?_
 refine RL.c fun30 (fun hs => rfcheck x.f x.a x.n x.c hx.rd.cons hx.len hx.max hx.ok) ?_
 rintro _ _ ⟨rfl, e⟩; obtain rfl := e.symm
 refine RL.p T ?_
 refine RL.nil _ _ _ _ ?_
 refine hK2 _ _ _ ?_
 refine SW.cs (fun hc0 => ?_) (fun hc0 => ?_)
 ·skip
  first
   | (exfalso; first | omega | contradiction | (simp at *; done))
   | (
    refine SW.seq_k fun K3 hK3 => ?_
    refine SW.region _ _ _ _ ?_
    refine RL.p T ?_
    refine RL.p T ?_
    refine RL.nil _ _ _ _ ?_
    refine hK3 _ _ _ ?_
    refine SW.ret ?_
    refine retQ.rr (H) ?_
    clear hK3 K3 hK2 K2 hK1 K1 hK0 K0
    exact ⟨rfl, rfl⟩
    )
 ·skip
  first
   | (exfalso; first | omega | contradiction | (simp at *; done))
   | (
    refine SW.skip ?_
    refine hK1 _ _ _ ?_
    refine SW.seq_k fun K4 hK4 => ?_
    refine SW.seq_k fun K5 hK5 => ?_
    refine SW.drawQ [(9, 0), (10, 1), (11, 2), (12, 3), (13, 4), (14, 5), (15, 6), (16, 7), (17, 8), (18, 9)] [[], [0], [1, 0], [2, 1, 0], [3, 2, 1, 0], [], [5], [6, 5], [7, 6, 5], [4, 3, 2, 1, 0, 8, 7, 6, 5]] mixed (by kernel_rfl) (by kernel_rfl) ?_
    refine QL.p T ?_
    refine QL.p T ?_
    refine QL.p T ?_
    first | refine QL.lv1 T ?_ | refine QL.le T ?_
    refine QL.p T ?_
    refine QL.p T ?_
    refine QL.p T ?_
    refine QL.p T ?_
    first | refine QL.lv1 T ?_ | refine QL.le T ?_
    refine QL.p T ?_
    refine QL.nil ?_
    refine hK5 _ _ _ ?_
    refine SW.cs (fun hc1 => ?_) (fun hc1 => ?_)
    ·skip
     first
      | (exfalso; first | omega | contradiction | (simp at *; done))
      | (
       refine SW.seq_k fun K6 hK6 => ?_
       refine SW.region _ _ _ _ ?_
       refine RL.p T ?_
       refine RL.p T ?_
       refine RL.p T ?_
       first | refine RL.lv1 T ?_ | refine RL.le T ?_
       first | refine RL.ar ?_ | refine RL.p T ?_
       refine RL.p T ?_
       refine RL.p T ?_
       refine RL.s ?_
       first
         | refine NV.store_var1 T rfl rfl rfl rfl (by conv => lhs; whnf) rfl (by repeat first | exact At.head _ _ | assumption | exact At.put (by assumption) _ | apply At.tail | apply At.app) rfl rfl ?_
         | refine NV.store_var T rfl rfl rfl (by exact (rfl : _ = [_])) rfl rfl (by repeat first | exact At.head _ _ | assumption | exact At.put (by assumption) _ | apply At.tail | apply At.app) (Nat.le_of_ble_eq_true rfl) rfl ?_
         | refine NV.store_elem T rfl rfl rfl rfl (by conv => lhs; whnf) rfl (by repeat first | exact At.head _ _ | assumption | exact At.put (by assumption) _ | apply At.tail | apply At.app) (by omega) ?_
       refine RL.nil _ _ _ _ ?_
       refine hK6 _ _ _ ?_
       refine SW.seq_k fun K7 hK7 => ?_
       refine SW.region _ _ _ _ ?_
       refine RL.p T ?_
       refine RL.p T ?_
       refine RL.nil _ _ _ _ ?_
       refine hK7 _ _ _ ?_
       refine SW.ret ?_
       refine retQ.rr (H) ?_
       clear hK7 K7 hK6 K6 hK5 K5 hK4 K4 hK2 K2 hK1 K1 hK0 K0
       exact ⟨rfl, rfl⟩
       )
    ·skip
     first
      | (exfalso; first | omega | contradiction | (simp at *; done))
      | (
       refine SW.skip ?_
       refine hK4 _ _ _ ?_
       refine SW.seq_k fun K8 hK8 => ?_
       refine SW.region _ _ _ _ ?_
       refine RL.bs T rfl rfl rfl (by exact (rfl : _ = some [])) (fun b26_1 => ?_)
       refine RL.p T ?_
       refine RL.lv1 T ?_
       first | refine RL.apI1 (ki := .u8) T (fun a0_ c0_ => ?_) | refine RL.apI (ki := .u8) T (fun a0_ c0_ => ?_) | refine RL.apI (ki := .u8) (xs := []) T (fun a0_ c0_ => ?_)
       refine RL.p T ?_
       refine RL.sv1 T ?_
       refine RL.nil _ _ _ _ ?_
       refine hK8 _ _ _ ?_
       refine SW.seq_k fun K9 hK9 => ?_
       refine SW.draw [(31, 0), (32, 1), (33, 2), (34, 3), (35, 4), (36, 5), (37, 6), (38, 7), (39, 8), (40, 9), (41, 10), (42, 11)] [[], [], [], [2], [3, 2], [4, 3, 2], [1, 5, 4, 3, 2], [], [7], [6, 1, 5, 4, 3, 2, 8, 7], [0, 1, 2, 3, 4, 5, 6, 7, 8, 9], [10, 0, 1, 2, 3, 4, 5, 6, 7, 8, 9], [11, 10, 0, 1, 2, 3, 4, 5, 6, 7, 8, 9]] mixed (by kernel_rfl) (by kernel_rfl) ?_
       refine RD.p T ?_
       refine RD.p T ?_
       refine RD.p T ?_
       refine RD.p T ?_
       refine RD.q rfl rfl (Gd.none rfl) (by first | exact QV.load_var1 T rfl rfl rfl rfl (by repeat first | exact At.head _ _ | assumption | exact At.put (by assumption) _ | apply At.tail | apply At.app) rfl | exact QV.load_varN T rfl rfl rfl rfl rfl (by repeat first | exact At.head _ _ | assumption | exact At.put (by assumption) _ | apply At.tail | apply At.app) (by exact (rfl : _ = [_])) rfl | exact QV.load_elem T rfl rfl rfl rfl (by assumption) (by first | exact map_get _ _ (by omega) | assumption)) ?_
       refine RD.q rfl rfl (Gd.none rfl) (QV.vN T rfl rfl rfl rfl rfl (by exact (rfl : _ = [_, _, _, _, _, _, _, _, _, _, _]))) ?_
       apply RD.share
       ·intro hsh0
        refine RD.many rfl rfl (.cons ?_ (.cons ?_ .nil))
        ·skip
         refine RD1.nv rfl (Gd.none rfl) ?_
         refine NV.buildSlice T rfl rfl rfl (Nat.le_of_ble_eq_true rfl) (by exact (rfl : _ = some [])) ?_
         intro b32_2
         refine ⟨(Stab.cons rfl (Gd.none rfl) (QV.vN T rfl rfl rfl rfl rfl rfl) (Stab.cons rfl (Gd.none rfl) (by first | exact QV.load_var1 T rfl rfl rfl rfl (by repeat first | exact At.head _ _ | assumption | exact At.put (by assumption) _ | apply At.tail | apply At.app) rfl | exact QV.load_varN T rfl rfl rfl rfl rfl (by repeat first | exact At.head _ _ | assumption | exact At.put (by assumption) _ | apply At.tail | apply At.app) rfl rfl | exact QV.load_elem T rfl rfl rfl rfl (by assumption) (by first | exact map_get _ _ (by omega) | assumption)) (Stab.cons rfl (Gd.none rfl) (pev_sound T rfl) (Stab.cons rfl (Gd.none rfl) (pev_sound T rfl) (Stab.cons rfl (Gd.none rfl) (pev_sound T rfl) (Stab.cons rfl (Gd.none rfl) (pev_sound T rfl) Stab.nil)))))), ?_⟩
         refine RD.many rfl rfl (.cons ?_ (.cons ?_ .nil))
         ·skip
          refine RD1.nv rfl (Gd.none rfl) ?_
          first
            | refine NV.append1 T rfl rfl rfl rfl rfl rfl rfl rfl rfl rfl (by repeat first | exact At.head _ _ | assumption | exact At.put (by assumption) _ | apply At.tail | apply At.app) (ones rfl) (by first | omega | (unfold maxLen; omega)) (by first | omega | (show (_ + _) * 8 ≤ 140737488355328; omega)) ?_
            | refine NV.append T rfl rfl rfl rfl rfl rfl rfl rfl rfl rfl (by repeat first | exact At.head _ _ | assumption | exact At.put (by assumption) _ | apply At.tail | apply At.app) (by assumption) (ones rfl) (by first | omega | (unfold maxLen; omega)) (by first | omega | (show (_ + _) * 8 ≤ 140737488355328; omega)) ?_
          intro a1_ c1_
          refine ⟨(Stab.cons rfl (Gd.none rfl) (QV.vN T rfl rfl rfl rfl rfl rfl) (Stab.cons rfl (Gd.none rfl) (pev_sound T rfl) Stab.nil)), ?_⟩
          refine RD.nv rfl rfl rfl (Gd.none rfl) ?_
          refine NV.build1 T rfl (by conv => lhs; whnf) rfl rfl (by conv => lhs; whnf) (by exact (rfl : _ = some [_])) ?_
          intro b39_3
          refine ⟨(Stab.cons rfl (Gd.none rfl) (by first | exact QV.load_var1 T rfl rfl rfl rfl (by repeat first | exact At.head _ _ | assumption | exact At.put (by assumption) _ | apply At.tail | apply At.app) rfl | exact QV.load_varN T rfl rfl rfl rfl rfl (by repeat first | exact At.head _ _ | assumption | exact At.put (by assumption) _ | apply At.tail | apply At.app) rfl rfl | exact QV.load_elem T rfl rfl rfl rfl (by assumption) (by first | exact map_get _ _ (by omega) | assumption)) (Stab.cons rfl (Gd.none rfl) (pev_sound T rfl) (Stab.cons rfl (Gd.none rfl) (pev_sound T rfl) (Stab.cons rfl (Gd.none rfl) (pev_sound T rfl) (Stab.cons rfl (Gd.none rfl) (pev_sound T rfl) Stab.nil))))), ?_⟩
          refine RD.nv rfl rfl rfl (Gd.none rfl) ?_
          first
            | refine NV.append1 T rfl rfl rfl rfl rfl rfl rfl rfl rfl rfl (by repeat first | exact At.head _ _ | assumption | exact At.put (by assumption) _ | apply At.tail | apply At.app) (ones rfl) (by first | omega | (unfold maxLen; omega)) (by first | omega | (show (_ + _) * 8 ≤ 140737488355328; omega)) ?_
            | refine NV.append T rfl rfl rfl rfl rfl rfl rfl rfl rfl rfl (by repeat first | exact At.head _ _ | assumption | exact At.put (by assumption) _ | apply At.tail | apply At.app) (by assumption) (ones rfl) (by first | omega | (unfold maxLen; omega)) (by first | omega | (show (_ + _) * 8 ≤ 140737488355328; omega)) ?_
          intro a2_ c2_
          refine ⟨(Stab.cons rfl (Gd.none rfl) (pev_sound T rfl) Stab.nil), ?_⟩
          refine RD.p T ?_
          refine RD.p T ?_
          refine RD.nv rfl rfl rfl (Gd.none rfl) ?_
          first
            | refine NV.store_var1 T rfl rfl rfl rfl (by conv => lhs; whnf) rfl (by repeat first | exact At.head _ _ | assumption | exact At.put (by assumption) _ | apply At.tail | apply At.app) rfl rfl ?_
            | refine NV.store_var T rfl rfl rfl (by exact (rfl : _ = [_])) rfl rfl (by repeat first | exact At.head _ _ | assumption | exact At.put (by assumption) _ | apply At.tail | apply At.app) (Nat.le_of_ble_eq_true rfl) rfl ?_
            | refine NV.store_elem T rfl rfl rfl rfl (by conv => lhs; whnf) rfl (by repeat first | exact At.head _ _ | assumption | exact At.put (by assumption) _ | apply At.tail | apply At.app) (by omega) ?_
          refine ⟨Stab.nil, ?_⟩
          refine RD.k rfl rfl ?_
          exact hsh0 0
         ·skip
          refine RD1.nv rfl (Gd.none rfl) ?_
          refine NV.build1 T rfl (by conv => lhs; whnf) rfl rfl (by conv => lhs; whnf) (by exact (rfl : _ = some [_])) ?_
          intro b39_3
          refine ⟨(Stab.cons rfl (Gd.none rfl) (by first | exact QV.load_var1 T rfl rfl rfl rfl (by repeat first | exact At.head _ _ | assumption | exact At.put (by assumption) _ | apply At.tail | apply At.app) rfl | exact QV.load_varN T rfl rfl rfl rfl rfl (by repeat first | exact At.head _ _ | assumption | exact At.put (by assumption) _ | apply At.tail | apply At.app) rfl rfl | exact QV.load_elem T rfl rfl rfl rfl (by assumption) (by first | exact map_get _ _ (by omega) | assumption)) (Stab.cons rfl (Gd.none rfl) (pev_sound T rfl) (Stab.cons rfl (Gd.none rfl) (pev_sound T rfl) (Stab.cons rfl (Gd.none rfl) (pev_sound T rfl) (Stab.cons rfl (Gd.none rfl) (pev_sound T rfl) Stab.nil))))), ?_⟩
          refine RD.nv rfl rfl rfl (Gd.none rfl) ?_
          first
            | refine NV.append1 T rfl rfl rfl rfl rfl rfl rfl rfl rfl rfl (by repeat first | exact At.head _ _ | assumption | exact At.put (by assumption) _ | apply At.tail | apply At.app) (ones rfl) (by first | omega | (unfold maxLen; omega)) (by first | omega | (show (_ + _) * 8 ≤ 140737488355328; omega)) ?_
            | refine NV.append T rfl rfl rfl rfl rfl rfl rfl rfl rfl rfl (by repeat first | exact At.head _ _ | assumption | exact At.put (by assumption) _ | apply At.tail | apply At.app) (by assumption) (ones rfl) (by first | omega | (unfold maxLen; omega)) (by first | omega | (show (_ + _) * 8 ≤ 140737488355328; omega)) ?_
          intro a1_ c1_
          refine ⟨(Stab.cons rfl (Gd.none rfl) (QV.vN T rfl rfl rfl rfl rfl rfl) (Stab.cons rfl (Gd.none rfl) (pev_sound T rfl) Stab.nil)), ?_⟩
          refine RD.nv rfl rfl rfl (Gd.none rfl) ?_
          first
            | refine NV.append1 T rfl rfl rfl rfl rfl rfl rfl rfl rfl rfl (by repeat first | exact At.head _ _ | assumption | exact At.put (by assumption) _ | apply At.tail | apply At.app) (ones rfl) (by first | omega | (unfold maxLen; omega)) (by first | omega | (show (_ + _) * 8 ≤ 140737488355328; omega)) ?_
            | refine NV.append T rfl rfl rfl rfl rfl rfl rfl rfl rfl rfl (by repeat first | exact At.head _ _ | assumption | exact At.put (by assumption) _ | apply At.tail | apply At.app) (by assumption) (ones rfl) (by first | omega | (unfold maxLen; omega)) (by first | omega | (show (_ + _) * 8 ≤ 140737488355328; omega)) ?_
          intro a2_ c2_
          refine ⟨(Stab.cons rfl (Gd.none rfl) (pev_sound T rfl) Stab.nil), ?_⟩
          refine RD.p T ?_
          refine RD.p T ?_
          refine RD.nv rfl rfl rfl (Gd.none rfl) ?_
          first
            | refine NV.store_var1 T rfl rfl rfl rfl (by conv => lhs; whnf) rfl (by repeat first | exact At.head _ _ | assumption | exact At.put (by assumption) _ | apply At.tail | apply At.app) rfl rfl ?_
            | refine NV.store_var T rfl rfl rfl (by exact (rfl : _ = [_])) rfl rfl (by repeat first | exact At.head _ _ | assumption | exact At.put (by assumption) _ | apply At.tail | apply At.app) (Nat.le_of_ble_eq_true rfl) rfl ?_
            | refine NV.store_elem T rfl rfl rfl rfl (by conv => lhs; whnf) rfl (by repeat first | exact At.head _ _ | assumption | exact At.put (by assumption) _ | apply At.tail | apply At.app) (by omega) ?_
          refine ⟨Stab.nil, ?_⟩
          refine RD.k rfl rfl ?_
          exact hsh0 0
        ·skip
         refine RD1.nv rfl (Gd.none rfl) ?_
         refine NV.build1 T rfl (by conv => lhs; whnf) rfl rfl (by conv => lhs; whnf) (by exact (rfl : _ = some [_])) ?_
         intro b39_2
         refine ⟨(Stab.cons rfl (Gd.none rfl) (by first | exact QV.load_var1 T rfl rfl rfl rfl (by repeat first | exact At.head _ _ | assumption | exact At.put (by assumption) _ | apply At.tail | apply At.app) rfl | exact QV.load_varN T rfl rfl rfl rfl rfl (by repeat first | exact At.head _ _ | assumption | exact At.put (by assumption) _ | apply At.tail | apply At.app) rfl rfl | exact QV.load_elem T rfl rfl rfl rfl (by assumption) (by first | exact map_get _ _ (by omega) | assumption)) (Stab.cons rfl (Gd.none rfl) (pev_sound T rfl) (Stab.cons rfl (Gd.none rfl) (pev_sound T rfl) (Stab.cons rfl (Gd.none rfl) (pev_sound T rfl) (Stab.cons rfl (Gd.none rfl) (pev_sound T rfl) Stab.nil))))), ?_⟩
         refine RD.nv rfl rfl rfl (Gd.none rfl) ?_
         refine NV.buildSlice T rfl rfl rfl (Nat.le_of_ble_eq_true rfl) (by exact (rfl : _ = some [])) ?_
         intro b32_3
         refine ⟨(Stab.cons rfl (Gd.none rfl) (QV.vN T rfl rfl rfl rfl rfl rfl) (Stab.cons rfl (Gd.none rfl) (by first | exact QV.load_var1 T rfl rfl rfl rfl (by repeat first | exact At.head _ _ | assumption | exact At.put (by assumption) _ | apply At.tail | apply At.app) rfl | exact QV.load_varN T rfl rfl rfl rfl rfl (by repeat first | exact At.head _ _ | assumption | exact At.put (by assumption) _ | apply At.tail | apply At.app) rfl rfl | exact QV.load_elem T rfl rfl rfl rfl (by assumption) (by first | exact map_get _ _ (by omega) | assumption)) (Stab.cons rfl (Gd.none rfl) (pev_sound T rfl) (Stab.cons rfl (Gd.none rfl) (pev_sound T rfl) (Stab.cons rfl (Gd.none rfl) (pev_sound T rfl) (Stab.cons rfl (Gd.none rfl) (pev_sound T rfl) Stab.nil)))))), ?_⟩
         refine RD.nv rfl rfl rfl (Gd.none rfl) ?_
         first
           | refine NV.append1 T rfl rfl rfl rfl rfl rfl rfl rfl rfl rfl (by repeat first | exact At.head _ _ | assumption | exact At.put (by assumption) _ | apply At.tail | apply At.app) (ones rfl) (by first | omega | (unfold maxLen; omega)) (by first | omega | (show (_ + _) * 8 ≤ 140737488355328; omega)) ?_
           | refine NV.append T rfl rfl rfl rfl rfl rfl rfl rfl rfl rfl (by repeat first | exact At.head _ _ | assumption | exact At.put (by assumption) _ | apply At.tail | apply At.app) (by assumption) (ones rfl) (by first | omega | (unfold maxLen; omega)) (by first | omega | (show (_ + _) * 8 ≤ 140737488355328; omega)) ?_
         intro a1_ c1_
         refine ⟨(Stab.cons rfl (Gd.none rfl) (QV.vN T rfl rfl rfl rfl rfl rfl) (Stab.cons rfl (Gd.none rfl) (pev_sound T rfl) Stab.nil)), ?_⟩
         refine RD.nv rfl rfl rfl (Gd.none rfl) ?_
         first
           | refine NV.append1 T rfl rfl rfl rfl rfl rfl rfl rfl rfl rfl (by repeat first | exact At.head _ _ | assumption | exact At.put (by assumption) _ | apply At.tail | apply At.app) (ones rfl) (by first | omega | (unfold maxLen; omega)) (by first | omega | (show (_ + _) * 8 ≤ 140737488355328; omega)) ?_
           | refine NV.append T rfl rfl rfl rfl rfl rfl rfl rfl rfl rfl (by repeat first | exact At.head _ _ | assumption | exact At.put (by assumption) _ | apply At.tail | apply At.app) (by assumption) (ones rfl) (by first | omega | (unfold maxLen; omega)) (by first | omega | (show (_ + _) * 8 ≤ 140737488355328; omega)) ?_
         intro a2_ c2_
         refine ⟨(Stab.cons rfl (Gd.none rfl) (pev_sound T rfl) Stab.nil), ?_⟩
         refine RD.p T ?_
         refine RD.p T ?_
         refine RD.nv rfl rfl rfl (Gd.none rfl) ?_
         first
           | refine NV.store_var1 T rfl rfl rfl rfl (by conv => lhs; whnf) rfl (by repeat first | exact At.head _ _ | assumption | exact At.put (by assumption) _ | apply At.tail | apply At.app) rfl rfl ?_
           | refine NV.store_var T rfl rfl rfl (by exact (rfl : _ = [_])) rfl rfl (by repeat first | exact At.head _ _ | assumption | exact At.put (by assumption) _ | apply At.tail | apply At.app) (Nat.le_of_ble_eq_true rfl) rfl ?_
           | refine NV.store_elem T rfl rfl rfl rfl (by conv => lhs; whnf) rfl (by repeat first | exact At.head _ _ | assumption | exact At.put (by assumption) _ | apply At.tail | apply At.app) (by omega) ?_
         refine ⟨Stab.nil, ?_⟩
         refine RD.k rfl rfl ?_
         exact hsh0 0
       ·intro b0_
        refine hK9 _ _ _ ?_
        refine SW.seq_k fun K10 hK10 => ?_
        refine SW.region _ _ _ _ ?_
        refine RL.p T ?_
        refine RL.p T ?_
        refine RL.nil _ _ _ _ ?_
        refine hK10 _ _ _ ?_
        refine SW.ret ?_
        refine retQ.rr (H) ?_
        clear hK10 K10 hK9 K9 hK8 K8 hK5 K5 hK4 K4 hK2 K2 hK1 K1 hK0 K0
        exact ⟨rfl, rfl⟩
       )
    )
theorem rpush_full {w0 : World} {H : List Chunk} (b : Nat) (room over : Int) (a : Option Addr) (n c : Nat) (kk : Chunk → List Chunk) (hat : At H (.var b 48 [.int .i64 room, .int .i64 over, .slice a n c]) kk) (M : List Fs) (hR : Rd w0 H a n c 11 (M.flatMap FsC)) (hn : n = M.length) (hm : n ≤ 4398046511000) (x : Fs) (hx : FsOk w0 H x) (hc : chkF x.f = 0) (hn2 : room ≤ n) (o0 : 0 ≤ over) (ho : over < 4611686018427387904) : SC Try.prog w0 23 #[.pointer (some ⟨b, 0, none⟩), FsA x] H (fun v H' => v = .tuple #[.bool false, .int .i64 0] ∧ H' = kk (.var b 48 [.int .i64 room, .int .i64 (over + 1), .slice a n c])) := by
 refine SC.enter Try.func23 rfl (Nat.le_of_ble_eq_true rfl) ?_
 refine SW.seq_k fun K0 hK0 => ?_
 refine SW.region _ _ _ _ ?_
 refine RL.s ?_
 refine NV.box rfl (by exact (rfl : _ = [_, _, _, _, _, _, _, _, _, _, _])) ?_
 intro b3_0
 refine RL.p T ?_
 refine RL.p T ?_
 refine RL.nil _ _ _ _ ?_
 refine hK0 _ _ _ ?_
 refine SW.seq_k fun K1 hK1 => ?_
 refine SW.seq_k fun K2 hK2 => ?_
 refine SW.region _ _ _ _ ?_
 refine RL.q (QV.vN T rfl rfl rfl rfl rfl (by exact (rfl : _ = [_, _, _, _, _, _, _, _, _, _, _]))) ?_
 refine RL.c fun30 (fun hs => rfcheck x.f x.a x.n x.c hx.rd.cons hx.len hx.max hx.ok) ?_
 rintro _ _ ⟨rfl, e⟩; obtain rfl := e.symm
 refine RL.p T ?_
 refine RL.nil _ _ _ _ ?_
 refine hK2 _ _ _ ?_
 refine SW.cs (fun hc0 => ?_) (fun hc0 => ?_)
 ·skip
  first
   | (exfalso; first | omega | contradiction | (simp at *; done))
   | (
    refine SW.seq_k fun K3 hK3 => ?_
    refine SW.region _ _ _ _ ?_
    refine RL.p T ?_
    refine RL.p T ?_
    refine RL.nil _ _ _ _ ?_
    refine hK3 _ _ _ ?_
    refine SW.ret ?_
    refine retQ.rr ((kk (.var b 48 [.int .i64 room, .int .i64 (over + 1), .slice a n c]))) ?_
    clear hK3 K3 hK2 K2 hK1 K1 hK0 K0
    exact ⟨rfl, rfl⟩
    )
 ·skip
  first
   | (exfalso; first | omega | contradiction | (simp at *; done))
   | (
    refine SW.skip ?_
    refine hK1 _ _ _ ?_
    refine SW.seq_k fun K4 hK4 => ?_
    refine SW.seq_k fun K5 hK5 => ?_
    refine SW.drawQ [(9, 0), (10, 1), (11, 2), (12, 3), (13, 4), (14, 5), (15, 6), (16, 7), (17, 8), (18, 9)] [[], [0], [1, 0], [2, 1, 0], [3, 2, 1, 0], [], [5], [6, 5], [7, 6, 5], [4, 3, 2, 1, 0, 8, 7, 6, 5]] mixed (by kernel_rfl) (by kernel_rfl) ?_
    refine QL.p T ?_
    refine QL.p T ?_
    refine QL.p T ?_
    first | refine QL.lv1 T ?_ | refine QL.le T ?_
    refine QL.p T ?_
    refine QL.p T ?_
    refine QL.p T ?_
    refine QL.p T ?_
    first | refine QL.lv1 T ?_ | refine QL.le T ?_
    refine QL.p T ?_
    refine QL.nil ?_
    refine hK5 _ _ _ ?_
    refine SW.cs (fun hc1 => ?_) (fun hc1 => ?_)
    ·skip
     first
      | (exfalso; first | omega | contradiction | (simp at *; done))
      | (
       refine SW.seq_k fun K6 hK6 => ?_
       refine SW.region _ _ _ _ ?_
       refine RL.p T ?_
       refine RL.p T ?_
       refine RL.p T ?_
       first | refine RL.lv1 T ?_ | refine RL.le T ?_
       first | refine RL.ar ?_ | refine RL.p T ?_
       refine RL.p T ?_
       refine RL.p T ?_
       refine RL.s ?_
       first
         | refine NV.store_var1 T rfl rfl rfl rfl (by conv => lhs; whnf) rfl (by repeat first | exact At.head _ _ | assumption | exact At.put (by assumption) _ | apply At.tail | apply At.app) rfl rfl ?_
         | refine NV.store_var T rfl rfl rfl (by exact (rfl : _ = [_])) rfl rfl (by repeat first | exact At.head _ _ | assumption | exact At.put (by assumption) _ | apply At.tail | apply At.app) (Nat.le_of_ble_eq_true rfl) rfl ?_
         | refine NV.store_elem T rfl rfl rfl rfl (by conv => lhs; whnf) rfl (by repeat first | exact At.head _ _ | assumption | exact At.put (by assumption) _ | apply At.tail | apply At.app) (by omega) ?_
       refine RL.nil _ _ _ _ ?_
       refine hK6 _ _ _ ?_
       refine SW.seq_k fun K7 hK7 => ?_
       refine SW.region _ _ _ _ ?_
       refine RL.p T ?_
       refine RL.p T ?_
       refine RL.nil _ _ _ _ ?_
       refine hK7 _ _ _ ?_
       refine SW.ret ?_
       refine retQ.rr ((kk (.var b 48 [.int .i64 room, .int .i64 (over + 1), .slice a n c]))) ?_
       clear hK7 K7 hK6 K6 hK5 K5 hK4 K4 hK2 K2 hK1 K1 hK0 K0
       exact ⟨rfl, rfl⟩
       )
    ·skip
     first
      | (exfalso; first | omega | contradiction | (simp at *; done))
      | (
       refine SW.skip ?_
       refine hK4 _ _ _ ?_
       refine SW.seq_k fun K8 hK8 => ?_
       refine SW.region _ _ _ _ ?_
       refine RL.bs T rfl rfl rfl (by exact (rfl : _ = some [])) (fun b26_1 => ?_)
       refine RL.p T ?_
       refine RL.lv1 T ?_
       first | refine RL.apI1 (ki := .u8) T (fun a0_ c0_ => ?_) | refine RL.apI (ki := .u8) T (fun a0_ c0_ => ?_) | refine RL.apI (ki := .u8) (xs := []) T (fun a0_ c0_ => ?_)
       refine RL.p T ?_
       refine RL.sv1 T ?_
       refine RL.nil _ _ _ _ ?_
       refine hK8 _ _ _ ?_
       refine SW.seq_k fun K9 hK9 => ?_
       refine SW.draw [(31, 0), (32, 1), (33, 2), (34, 3), (35, 4), (36, 5), (37, 6), (38, 7), (39, 8), (40, 9), (41, 10), (42, 11)] [[], [], [], [2], [3, 2], [4, 3, 2], [1, 5, 4, 3, 2], [], [7], [6, 1, 5, 4, 3, 2, 8, 7], [0, 1, 2, 3, 4, 5, 6, 7, 8, 9], [10, 0, 1, 2, 3, 4, 5, 6, 7, 8, 9], [11, 10, 0, 1, 2, 3, 4, 5, 6, 7, 8, 9]] mixed (by kernel_rfl) (by kernel_rfl) ?_
       refine RD.p T ?_
       refine RD.p T ?_
       refine RD.p T ?_
       refine RD.p T ?_
       refine RD.q rfl rfl (Gd.none rfl) (by first | exact QV.load_var1 T rfl rfl rfl rfl (by repeat first | exact At.head _ _ | assumption | exact At.put (by assumption) _ | apply At.tail | apply At.app) rfl | exact QV.load_varN T rfl rfl rfl rfl rfl (by repeat first | exact At.head _ _ | assumption | exact At.put (by assumption) _ | apply At.tail | apply At.app) (by exact (rfl : _ = [_])) rfl | exact QV.load_elem T rfl rfl rfl rfl (by assumption) (by first | exact map_get _ _ (by omega) | assumption)) ?_
       refine RD.q rfl rfl (Gd.none rfl) (QV.vN T rfl rfl rfl rfl rfl (by exact (rfl : _ = [_, _, _, _, _, _, _, _, _, _, _]))) ?_
       apply RD.share
       ·intro hsh0
        refine RD.many rfl rfl (.cons ?_ (.cons ?_ .nil))
        ·skip
         refine RD1.nv rfl (Gd.none rfl) ?_
         refine NV.buildSlice T rfl rfl rfl (Nat.le_of_ble_eq_true rfl) (by exact (rfl : _ = some [])) ?_
         intro b32_2
         refine ⟨(Stab.cons rfl (Gd.none rfl) (QV.vN T rfl rfl rfl rfl rfl rfl) (Stab.cons rfl (Gd.none rfl) (by first | exact QV.load_var1 T rfl rfl rfl rfl (by repeat first | exact At.head _ _ | assumption | exact At.put (by assumption) _ | apply At.tail | apply At.app) rfl | exact QV.load_varN T rfl rfl rfl rfl rfl (by repeat first | exact At.head _ _ | assumption | exact At.put (by assumption) _ | apply At.tail | apply At.app) rfl rfl | exact QV.load_elem T rfl rfl rfl rfl (by assumption) (by first | exact map_get _ _ (by omega) | assumption)) (Stab.cons rfl (Gd.none rfl) (pev_sound T rfl) (Stab.cons rfl (Gd.none rfl) (pev_sound T rfl) (Stab.cons rfl (Gd.none rfl) (pev_sound T rfl) (Stab.cons rfl (Gd.none rfl) (pev_sound T rfl) Stab.nil)))))), ?_⟩
         refine RD.many rfl rfl (.cons ?_ (.cons ?_ .nil))
         ·skip
          refine RD1.nv rfl (Gd.none rfl) ?_
          first
            | refine NV.append1 T rfl rfl rfl rfl rfl rfl rfl rfl rfl rfl (by repeat first | exact At.head _ _ | assumption | exact At.put (by assumption) _ | apply At.tail | apply At.app) (ones rfl) (by first | omega | (unfold maxLen; omega)) (by first | omega | (show (_ + _) * 8 ≤ 140737488355328; omega)) ?_
            | refine NV.append T rfl rfl rfl rfl rfl rfl rfl rfl rfl rfl (by repeat first | exact At.head _ _ | assumption | exact At.put (by assumption) _ | apply At.tail | apply At.app) (by assumption) (ones rfl) (by first | omega | (unfold maxLen; omega)) (by first | omega | (show (_ + _) * 8 ≤ 140737488355328; omega)) ?_
          intro a1_ c1_
          refine ⟨(Stab.cons rfl (Gd.none rfl) (QV.vN T rfl rfl rfl rfl rfl rfl) (Stab.cons rfl (Gd.none rfl) (pev_sound T rfl) Stab.nil)), ?_⟩
          refine RD.nv rfl rfl rfl (Gd.none rfl) ?_
          refine NV.build1 T rfl (by conv => lhs; whnf) rfl rfl (by conv => lhs; whnf) (by exact (rfl : _ = some [_])) ?_
          intro b39_3
          refine ⟨(Stab.cons rfl (Gd.none rfl) (by first | exact QV.load_var1 T rfl rfl rfl rfl (by repeat first | exact At.head _ _ | assumption | exact At.put (by assumption) _ | apply At.tail | apply At.app) rfl | exact QV.load_varN T rfl rfl rfl rfl rfl (by repeat first | exact At.head _ _ | assumption | exact At.put (by assumption) _ | apply At.tail | apply At.app) rfl rfl | exact QV.load_elem T rfl rfl rfl rfl (by assumption) (by first | exact map_get _ _ (by omega) | assumption)) (Stab.cons rfl (Gd.none rfl) (pev_sound T rfl) (Stab.cons rfl (Gd.none rfl) (pev_sound T rfl) (Stab.cons rfl (Gd.none rfl) (pev_sound T rfl) (Stab.cons rfl (Gd.none rfl) (pev_sound T rfl) Stab.nil))))), ?_⟩
          refine RD.nv rfl rfl rfl (Gd.none rfl) ?_
          first
            | refine NV.append1 T rfl rfl rfl rfl rfl rfl rfl rfl rfl rfl (by repeat first | exact At.head _ _ | assumption | exact At.put (by assumption) _ | apply At.tail | apply At.app) (ones rfl) (by first | omega | (unfold maxLen; omega)) (by first | omega | (show (_ + _) * 8 ≤ 140737488355328; omega)) ?_
            | refine NV.append T rfl rfl rfl rfl rfl rfl rfl rfl rfl rfl (by repeat first | exact At.head _ _ | assumption | exact At.put (by assumption) _ | apply At.tail | apply At.app) (by assumption) (ones rfl) (by first | omega | (unfold maxLen; omega)) (by first | omega | (show (_ + _) * 8 ≤ 140737488355328; omega)) ?_
          intro a2_ c2_
          refine ⟨(Stab.cons rfl (Gd.none rfl) (pev_sound T rfl) Stab.nil), ?_⟩
          refine RD.p T ?_
          refine RD.p T ?_
          refine RD.nv rfl rfl rfl (Gd.none rfl) ?_
          first
            | refine NV.store_var1 T rfl rfl rfl rfl (by conv => lhs; whnf) rfl (by repeat first | exact At.head _ _ | assumption | exact At.put (by assumption) _ | apply At.tail | apply At.app) rfl rfl ?_
            | refine NV.store_var T rfl rfl rfl (by exact (rfl : _ = [_])) rfl rfl (by repeat first | exact At.head _ _ | assumption | exact At.put (by assumption) _ | apply At.tail | apply At.app) (Nat.le_of_ble_eq_true rfl) rfl ?_
            | refine NV.store_elem T rfl rfl rfl rfl (by conv => lhs; whnf) rfl (by repeat first | exact At.head _ _ | assumption | exact At.put (by assumption) _ | apply At.tail | apply At.app) (by omega) ?_
          refine ⟨Stab.nil, ?_⟩
          refine RD.k rfl rfl ?_
          exact hsh0 0
         ·skip
          refine RD1.nv rfl (Gd.none rfl) ?_
          refine NV.build1 T rfl (by conv => lhs; whnf) rfl rfl (by conv => lhs; whnf) (by exact (rfl : _ = some [_])) ?_
          intro b39_3
          refine ⟨(Stab.cons rfl (Gd.none rfl) (by first | exact QV.load_var1 T rfl rfl rfl rfl (by repeat first | exact At.head _ _ | assumption | exact At.put (by assumption) _ | apply At.tail | apply At.app) rfl | exact QV.load_varN T rfl rfl rfl rfl rfl (by repeat first | exact At.head _ _ | assumption | exact At.put (by assumption) _ | apply At.tail | apply At.app) rfl rfl | exact QV.load_elem T rfl rfl rfl rfl (by assumption) (by first | exact map_get _ _ (by omega) | assumption)) (Stab.cons rfl (Gd.none rfl) (pev_sound T rfl) (Stab.cons rfl (Gd.none rfl) (pev_sound T rfl) (Stab.cons rfl (Gd.none rfl) (pev_sound T rfl) (Stab.cons rfl (Gd.none rfl) (pev_sound T rfl) Stab.nil))))), ?_⟩
          refine RD.nv rfl rfl rfl (Gd.none rfl) ?_
          first
            | refine NV.append1 T rfl rfl rfl rfl rfl rfl rfl rfl rfl rfl (by repeat first | exact At.head _ _ | assumption | exact At.put (by assumption) _ | apply At.tail | apply At.app) (ones rfl) (by first | omega | (unfold maxLen; omega)) (by first | omega | (show (_ + _) * 8 ≤ 140737488355328; omega)) ?_
            | refine NV.append T rfl rfl rfl rfl rfl rfl rfl rfl rfl rfl (by repeat first | exact At.head _ _ | assumption | exact At.put (by assumption) _ | apply At.tail | apply At.app) (by assumption) (ones rfl) (by first | omega | (unfold maxLen; omega)) (by first | omega | (show (_ + _) * 8 ≤ 140737488355328; omega)) ?_
          intro a1_ c1_
          refine ⟨(Stab.cons rfl (Gd.none rfl) (QV.vN T rfl rfl rfl rfl rfl rfl) (Stab.cons rfl (Gd.none rfl) (pev_sound T rfl) Stab.nil)), ?_⟩
          refine RD.nv rfl rfl rfl (Gd.none rfl) ?_
          first
            | refine NV.append1 T rfl rfl rfl rfl rfl rfl rfl rfl rfl rfl (by repeat first | exact At.head _ _ | assumption | exact At.put (by assumption) _ | apply At.tail | apply At.app) (ones rfl) (by first | omega | (unfold maxLen; omega)) (by first | omega | (show (_ + _) * 8 ≤ 140737488355328; omega)) ?_
            | refine NV.append T rfl rfl rfl rfl rfl rfl rfl rfl rfl rfl (by repeat first | exact At.head _ _ | assumption | exact At.put (by assumption) _ | apply At.tail | apply At.app) (by assumption) (ones rfl) (by first | omega | (unfold maxLen; omega)) (by first | omega | (show (_ + _) * 8 ≤ 140737488355328; omega)) ?_
          intro a2_ c2_
          refine ⟨(Stab.cons rfl (Gd.none rfl) (pev_sound T rfl) Stab.nil), ?_⟩
          refine RD.p T ?_
          refine RD.p T ?_
          refine RD.nv rfl rfl rfl (Gd.none rfl) ?_
          first
            | refine NV.store_var1 T rfl rfl rfl rfl (by conv => lhs; whnf) rfl (by repeat first | exact At.head _ _ | assumption | exact At.put (by assumption) _ | apply At.tail | apply At.app) rfl rfl ?_
            | refine NV.store_var T rfl rfl rfl (by exact (rfl : _ = [_])) rfl rfl (by repeat first | exact At.head _ _ | assumption | exact At.put (by assumption) _ | apply At.tail | apply At.app) (Nat.le_of_ble_eq_true rfl) rfl ?_
            | refine NV.store_elem T rfl rfl rfl rfl (by conv => lhs; whnf) rfl (by repeat first | exact At.head _ _ | assumption | exact At.put (by assumption) _ | apply At.tail | apply At.app) (by omega) ?_
          refine ⟨Stab.nil, ?_⟩
          refine RD.k rfl rfl ?_
          exact hsh0 0
        ·skip
         refine RD1.nv rfl (Gd.none rfl) ?_
         refine NV.build1 T rfl (by conv => lhs; whnf) rfl rfl (by conv => lhs; whnf) (by exact (rfl : _ = some [_])) ?_
         intro b39_2
         refine ⟨(Stab.cons rfl (Gd.none rfl) (by first | exact QV.load_var1 T rfl rfl rfl rfl (by repeat first | exact At.head _ _ | assumption | exact At.put (by assumption) _ | apply At.tail | apply At.app) rfl | exact QV.load_varN T rfl rfl rfl rfl rfl (by repeat first | exact At.head _ _ | assumption | exact At.put (by assumption) _ | apply At.tail | apply At.app) rfl rfl | exact QV.load_elem T rfl rfl rfl rfl (by assumption) (by first | exact map_get _ _ (by omega) | assumption)) (Stab.cons rfl (Gd.none rfl) (pev_sound T rfl) (Stab.cons rfl (Gd.none rfl) (pev_sound T rfl) (Stab.cons rfl (Gd.none rfl) (pev_sound T rfl) (Stab.cons rfl (Gd.none rfl) (pev_sound T rfl) Stab.nil))))), ?_⟩
         refine RD.nv rfl rfl rfl (Gd.none rfl) ?_
         refine NV.buildSlice T rfl rfl rfl (Nat.le_of_ble_eq_true rfl) (by exact (rfl : _ = some [])) ?_
         intro b32_3
         refine ⟨(Stab.cons rfl (Gd.none rfl) (QV.vN T rfl rfl rfl rfl rfl rfl) (Stab.cons rfl (Gd.none rfl) (by first | exact QV.load_var1 T rfl rfl rfl rfl (by repeat first | exact At.head _ _ | assumption | exact At.put (by assumption) _ | apply At.tail | apply At.app) rfl | exact QV.load_varN T rfl rfl rfl rfl rfl (by repeat first | exact At.head _ _ | assumption | exact At.put (by assumption) _ | apply At.tail | apply At.app) rfl rfl | exact QV.load_elem T rfl rfl rfl rfl (by assumption) (by first | exact map_get _ _ (by omega) | assumption)) (Stab.cons rfl (Gd.none rfl) (pev_sound T rfl) (Stab.cons rfl (Gd.none rfl) (pev_sound T rfl) (Stab.cons rfl (Gd.none rfl) (pev_sound T rfl) (Stab.cons rfl (Gd.none rfl) (pev_sound T rfl) Stab.nil)))))), ?_⟩
         refine RD.nv rfl rfl rfl (Gd.none rfl) ?_
         first
           | refine NV.append1 T rfl rfl rfl rfl rfl rfl rfl rfl rfl rfl (by repeat first | exact At.head _ _ | assumption | exact At.put (by assumption) _ | apply At.tail | apply At.app) (ones rfl) (by first | omega | (unfold maxLen; omega)) (by first | omega | (show (_ + _) * 8 ≤ 140737488355328; omega)) ?_
           | refine NV.append T rfl rfl rfl rfl rfl rfl rfl rfl rfl rfl (by repeat first | exact At.head _ _ | assumption | exact At.put (by assumption) _ | apply At.tail | apply At.app) (by assumption) (ones rfl) (by first | omega | (unfold maxLen; omega)) (by first | omega | (show (_ + _) * 8 ≤ 140737488355328; omega)) ?_
         intro a1_ c1_
         refine ⟨(Stab.cons rfl (Gd.none rfl) (QV.vN T rfl rfl rfl rfl rfl rfl) (Stab.cons rfl (Gd.none rfl) (pev_sound T rfl) Stab.nil)), ?_⟩
         refine RD.nv rfl rfl rfl (Gd.none rfl) ?_
         first
           | refine NV.append1 T rfl rfl rfl rfl rfl rfl rfl rfl rfl rfl (by repeat first | exact At.head _ _ | assumption | exact At.put (by assumption) _ | apply At.tail | apply At.app) (ones rfl) (by first | omega | (unfold maxLen; omega)) (by first | omega | (show (_ + _) * 8 ≤ 140737488355328; omega)) ?_
           | refine NV.append T rfl rfl rfl rfl rfl rfl rfl rfl rfl rfl (by repeat first | exact At.head _ _ | assumption | exact At.put (by assumption) _ | apply At.tail | apply At.app) (by assumption) (ones rfl) (by first | omega | (unfold maxLen; omega)) (by first | omega | (show (_ + _) * 8 ≤ 140737488355328; omega)) ?_
         intro a2_ c2_
         refine ⟨(Stab.cons rfl (Gd.none rfl) (pev_sound T rfl) Stab.nil), ?_⟩
         refine RD.p T ?_
         refine RD.p T ?_
         refine RD.nv rfl rfl rfl (Gd.none rfl) ?_
         first
           | refine NV.store_var1 T rfl rfl rfl rfl (by conv => lhs; whnf) rfl (by repeat first | exact At.head _ _ | assumption | exact At.put (by assumption) _ | apply At.tail | apply At.app) rfl rfl ?_
           | refine NV.store_var T rfl rfl rfl (by exact (rfl : _ = [_])) rfl rfl (by repeat first | exact At.head _ _ | assumption | exact At.put (by assumption) _ | apply At.tail | apply At.app) (Nat.le_of_ble_eq_true rfl) rfl ?_
           | refine NV.store_elem T rfl rfl rfl rfl (by conv => lhs; whnf) rfl (by repeat first | exact At.head _ _ | assumption | exact At.put (by assumption) _ | apply At.tail | apply At.app) (by omega) ?_
         refine ⟨Stab.nil, ?_⟩
         refine RD.k rfl rfl ?_
         exact hsh0 0
       ·intro b0_
        refine hK9 _ _ _ ?_
        refine SW.seq_k fun K10 hK10 => ?_
        refine SW.region _ _ _ _ ?_
        refine RL.p T ?_
        refine RL.p T ?_
        refine RL.nil _ _ _ _ ?_
        refine hK10 _ _ _ ?_
        refine SW.ret ?_
        refine retQ.rr ((kk (.var b 48 [.int .i64 room, .int .i64 (over + 1), .slice a n c]))) ?_
        clear hK10 K10 hK9 K9 hK8 K8 hK5 K5 hK4 K4 hK2 K2 hK1 K1 hK0 K0
        exact ⟨rfl, rfl⟩
       )
    )
end Go.Proofs.Ytojghialjpianaa.M
