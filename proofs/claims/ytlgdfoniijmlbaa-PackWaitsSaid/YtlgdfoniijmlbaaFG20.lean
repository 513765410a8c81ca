import Derived.Test.YtlgdfoniijmlbaaProg
import Derived.Test.YtlgdfoniijmlbaaFF20
set_option linter.unusedVariables false
set_option linter.unusedSimpArgs false
namespace Go.Proofs.Ytlgdfoniijmlbaa.M
open Go Go.Sep Go.Proofs
set_option maxRecDepth 10000
set_option maxHeartbeats 2000000
theorem radd_bad1 {w0 : World} {H : List Chunk} (p : Pd) (hp : PdOk w0 H p) (bm room wait age : Nat) (ma : Option Addr) (mn mc : Nat) (h : 2048 < wk (mgP p)) : SC Try.prog w0 17 #[.pointer (some ⟨bm, 0, none⟩), PdA p] (.var bm 55 [.int .i64 ((room : Nat) : Int), .int .i64 ((wait : Nat) : Int), .int .i64 ((age : Nat) : Int), .slice ma mn mc] :: H) (fun v H' => v = .tuple #[.slice none 0 0, .int .i64 2] ∧ H' = .var bm 55 [.int .i64 ((room : Nat) : Int), .int .i64 ((wait : Nat) : Int), .int .i64 ((age : Nat) : Int), .slice ma mn mc] :: H) := by
 refine SC.enter Try.func17 rfl (Nat.le_of_ble_eq_true rfl) ?_
 refine SW.seq_k fun K0 hK0 => ?_
 refine SW.region _ _ _ _ ?_
 refine RL.s ?_
 refine NV.box rfl (by exact (rfl : _ = [_, _])) ?_
 intro b3_0
 refine RL.p T ?_
 refine RL.p T ?_
 refine RL.nil _ _ _ _ ?_
 refine hK0 _ _ _ ?_
 refine SW.seq_k fun K1 hK1 => ?_
 refine SW.region _ _ _ _ ?_
 refine RL.q (QV.vN T rfl rfl rfl rfl rfl (by exact (rfl : _ = [_, _]))) ?_
 refine RL.c fun25 (fun hs => rsizeB p hp.cons.cons h) ?_
 rintro _ _ ⟨rfl, e⟩; obtain rfl := e.symm
 refine RL.p T ?_
 refine RL.p T ?_
 refine RL.p T ?_
 refine RL.p T ?_
 refine RL.p T ?_
 refine RL.nil _ _ _ _ ?_
 refine hK1 _ _ _ ?_
 refine SW.seq_k fun K2 hK2 => ?_
 refine SW.seq_k fun K3 hK3 => ?_
 refine SW.region _ _ _ _ ?_
 refine RL.p T ?_
 refine RL.p T ?_
 refine RL.p T ?_
 refine RL.guard_no rfl rfl rfl ?_
 refine RL.guard_no rfl rfl rfl ?_
 refine RL.guard_no rfl rfl rfl ?_
 refine RL.guard_no rfl rfl rfl ?_
 refine RL.guard_no rfl rfl rfl ?_
 refine RL.guard_no rfl rfl rfl ?_
 refine RL.p T ?_
 refine RL.nil _ _ _ _ ?_
 refine hK3 _ _ _ ?_
 refine SW.cond_t rfl ?_
 refine SW.seq_k fun K4 hK4 => ?_
 refine SW.region _ _ _ _ ?_
 refine RL.p T ?_
 refine RL.p T ?_
 refine RL.nil _ _ _ _ ?_
 refine hK4 _ _ _ ?_
 refine SW.ret ?_
 refine retQ.rr ((.var bm 55 [.int .i64 ((room : Nat) : Int), .int .i64 ((wait : Nat) : Int), .int .i64 ((age : Nat) : Int), .slice ma mn mc] :: H)) ?_
 clear hK4 K4 hK3 K3 hK2 K2 hK1 K1 hK0 K0
 exact ⟨rfl, rfl⟩
theorem radd_bad2 {w0 : World} {H : List Chunk} (p : Pd) (hp : PdOk w0 H p) (bm room wait age : Nat) (ma : Option Addr) (mn mc : Nat) (h : wk (mgP p) ≤ 2048) (h2 : room < wk (mgP p)) : SC Try.prog w0 17 #[.pointer (some ⟨bm, 0, none⟩), PdA p] (.var bm 55 [.int .i64 ((room : Nat) : Int), .int .i64 ((wait : Nat) : Int), .int .i64 ((age : Nat) : Int), .slice ma mn mc] :: H) (fun v H' => v = .tuple #[.slice none 0 0, .int .i64 2] ∧ H' = .var bm 55 [.int .i64 ((room : Nat) : Int), .int .i64 ((wait : Nat) : Int), .int .i64 ((age : Nat) : Int), .slice ma mn mc] :: H) := by
 refine SC.enter Try.func17 rfl (Nat.le_of_ble_eq_true rfl) ?_
 refine SW.seq_k fun K0 hK0 => ?_
 refine SW.region _ _ _ _ ?_
 refine RL.s ?_
 refine NV.box rfl (by exact (rfl : _ = [_, _])) ?_
 intro b3_0
 refine RL.p T ?_
 refine RL.p T ?_
 refine RL.nil _ _ _ _ ?_
 refine hK0 _ _ _ ?_
 refine SW.seq_k fun K1 hK1 => ?_
 refine SW.region _ _ _ _ ?_
 refine RL.q (QV.vN T rfl rfl rfl rfl rfl (by exact (rfl : _ = [_, _]))) ?_
 refine RL.c fun25 (fun hs => rsizeO p hp.cons.cons h) ?_
 rintro _ _ ⟨rfl, e⟩; obtain rfl := e.symm
 refine RL.p T ?_
 refine RL.p T ?_
 refine RL.p T ?_
 refine RL.p T ?_
 refine RL.p T ?_
 refine RL.nil _ _ _ _ ?_
 refine hK1 _ _ _ ?_
 refine SW.seq_k fun K2 hK2 => ?_
 refine SW.seq_k fun K3 hK3 => ?_
 refine SW.region _ _ _ _ ?_
 refine RL.p T ?_
 refine RL.p T ?_
 refine RL.p T ?_
 refine RL.p T ?_
 refine RL.p T ?_
 refine RL.p T ?_
 refine RL.p T ?_
 first | refine RL.lv1 T ?_ | refine RL.le T ?_
 refine RL.p T ?_
 refine RL.p T ?_
 refine RL.nil _ _ _ _ ?_
 refine hK3 _ _ _ ?_
 refine SW.cs (fun hc0 => ?_) (fun hc0 => ?_)
 ·skip
  first
   | (exfalso; first | omega | contradiction | (clear hK3 K3; clear hK2 K2; clear hK1 K1; clear hK0 K0; simp at *; done))
   | (
    refine SW.seq_k fun K4 hK4 => ?_
    refine SW.region _ _ _ _ ?_
    refine RL.p T ?_
    refine RL.p T ?_
    refine RL.nil _ _ _ _ ?_
    refine hK4 _ _ _ ?_
    refine SW.ret ?_
    refine retQ.rr ((.var bm 55 [.int .i64 ((room : Nat) : Int), .int .i64 ((wait : Nat) : Int), .int .i64 ((age : Nat) : Int), .slice ma mn mc] :: H)) ?_
    clear hK4 K4 hK3 K3 hK2 K2 hK1 K1 hK0 K0
    exact ⟨rfl, rfl⟩
    )
 ·skip
  exfalso; first | omega | contradiction | (clear hK3 K3; clear hK2 K2; clear hK1 K1; clear hK0 K0; simp at *; done)
theorem radd_ok {w0 : World} {H : List Chunk} (p : Pd) (hp : PdOk w0 H p) (bm room wait age : Nat) (ma : Option Addr) (mn mc : Nat) (M : List Pd) (hR : Rd w0 H ma mn mc 2 (M.flatMap PdC)) (hn : mn = M.length) (hu2 : usedM (mg M) ≤ 2048) (hok : ∀ y ∈ M, PdOk w0 H y) (h8 : 8 ≤ room) (hr2 : room ≤ 2048) (hu3 : usedM (mg M) ≤ room) (h : wk (mgP p) ≤ room) : SC Try.prog w0 17 #[.pointer (some ⟨bm, 0, none⟩), PdA p] (.var bm 55 [.int .i64 ((room : Nat) : Int), .int .i64 ((wait : Nat) : Int), .int .i64 ((age : Nat) : Int), .slice ma mn mc] :: H) (fun v H' => ∃ D oa' on' oc' os' ma' mn' mc' M' age', v = .tuple #[.slice oa' on' oc', .int .i64 0] ∧ H' = .row oa' on' oc' 23 1 (List.flatMap SlC os') :: .var bm 55 [.int .i64 ((room : Nat) : Int), .int .i64 ((wait : Nat) : Int), .int .i64 ((age' : Nat) : Int), .slice ma' mn' mc'] :: (D ++ H) ∧ on' = os'.length ∧ mn' = M'.length ∧ outD os' = addO room (mg M) (mgP p) ∧ mg M' = addL room (mg M) (mgP p) ∧ age' = ageO (outD os') age ∧ (∀ q ∈ os', SlOk w0 D q) ∧ (∀ y ∈ M', y ∈ M ∨ PdOk w0 D y) ∧ (∀ G, Rd w0 G ma mn mc 2 (List.flatMap PdC M) → Rd w0 (D ++ G) ma' mn' mc' 2 (List.flatMap PdC M'))) := by
 refine SC.enter Try.func17 rfl (Nat.le_of_ble_eq_true rfl) ?_
 refine SW.seq_k fun K0 hK0 => ?_
 have hll := usedM_len (mg M)
 rw [mg_len] at hll
 have hpl := hp.len
 have hpm := hp.max
 refine SW.region _ _ _ _ ?_
 refine RL.s ?_
 refine NV.box rfl (by exact (rfl : _ = [_, _])) ?_
 intro b3_0
 refine RL.p T ?_
 refine RL.p T ?_
 refine RL.nil _ _ _ _ ?_
 refine hK0 _ _ _ ?_
 refine SW.seq_k fun K1 hK1 => ?_
 refine SW.region _ _ _ _ ?_
 refine RL.q (QV.vN T rfl rfl rfl rfl rfl (by exact (rfl : _ = [_, _]))) ?_
 refine RL.c fun25 (fun hs => rsizeO p hp.cons.cons (by omega)) ?_
 rintro _ _ ⟨rfl, e⟩; obtain rfl := e.symm
 refine RL.p T ?_
 refine RL.p T ?_
 refine RL.p T ?_
 refine RL.p T ?_
 refine RL.p T ?_
 refine RL.nil _ _ _ _ ?_
 refine hK1 _ _ _ ?_
 refine SW.seq_k fun K2 hK2 => ?_
 refine SW.seq_k fun K3 hK3 => ?_
 refine SW.region _ _ _ _ ?_
 refine RL.p T ?_
 refine RL.p T ?_
 refine RL.p T ?_
 refine RL.p T ?_
 refine RL.p T ?_
 refine RL.p T ?_
 refine RL.p T ?_
 first | refine RL.lv1 T ?_ | refine RL.le T ?_
 refine RL.p T ?_
 refine RL.p T ?_
 refine RL.nil _ _ _ _ ?_
 refine hK3 _ _ _ ?_
 refine SW.cs (fun hc0 => ?_) (fun hc0 => ?_)
 ·skip
  first
   | (exfalso; first | omega | contradiction | (clear hK3 K3; clear hK2 K2; clear hK1 K1; clear hK0 K0; simp at *; done))
   | (
    refine SW.seq_k fun K4 hK4 => ?_
    refine SW.region _ _ _ _ ?_
    refine RL.p T ?_
    refine RL.p T ?_
    refine RL.nil _ _ _ _ ?_
    refine hK4 _ _ _ ?_
    refine SW.sat (fun hs => ?_)
    refine SW.ret ?_
    refine retQ.wk ([]) ?_
    refine retQ.rr _ ?_ (hH := fun w hw => hw)
    clear hK4 K4 hK3 K3 hK2 K2 hK1 K1 hK0 K0
    exact ⟨rfl, rfl⟩
    )
 ·skip
  first
   | (exfalso; first | omega | contradiction | (clear hK3 K3; clear hK2 K2; clear hK1 K1; clear hK0 K0; simp at *; done))
   | (
    refine SW.skip ?_
    refine hK2 _ _ _ ?_
    refine SW.seq_k fun K5 hK5 => ?_
    refine SW.region _ _ _ _ ?_
    refine RL.nilrow 23 1 ?_
    refine RL.p T ?_
    refine RL.nil _ _ _ _ ?_
    refine hK5 _ _ _ ?_
    refine SW.seq_k fun K6 hK6 => ?_
    refine SW.seq_k fun K7 hK7 => ?_
    refine SW.drawQ [(24, 0), (25, 1), (26, 2), (27, 3), (28, 4), (29, 5), (30, 6), (31, 7), (32, 8)] [[], [0], [], [1, 0, 2], [], [4], [5, 4], [6, 5, 4], [3, 1, 0, 2, 7, 6, 5, 4]] mixed (by kernel_rfl) (by kernel_rfl) ?_
    refine QL.p T ?_
    refine QL.c fun26 (fun hs => rused bm room wait age ma mn mc (by repeat first | exact At.head _ _ | apply At.tail | apply At.app) M (by repeat first | exact hR | apply Rd.cons) hn hu2 (fun y hy => by repeat first | exact hok y hy | apply PdOk.cons)) ?_
    refine QL.p T ?_
    first | refine QL.ar ?_ | refine QL.p T ?_
    refine QL.p T ?_
    refine QL.p T ?_
    refine QL.p T ?_
    first | refine QL.lv1 T ?_ | refine QL.le T ?_
    refine QL.p T ?_
    refine QL.nil ?_
    refine hK7 _ _ _ ?_
    refine SW.cs (fun hc1 => ?_) (fun hc1 => ?_)
    ·skip
     first
      | (exfalso; first | omega | contradiction | (clear hK7 K7; clear hK6 K6; clear hK5 K5; clear hK3 K3; clear hK2 K2; clear hK1 K1; clear hK0 K0; simp at *; done))
      | (
       refine SW.region _ _ _ _ ?_
       refine RL.p T ?_
       refine RL.c fun16 (fun hs => SC.wk (rflushV bm room wait age ma mn mc M hR.cons hn hu2 (fun y hy => (hok y hy).cons) (H := .var b3_0 25 (PdC p) :: H))) ?_
       rintro _ _ ⟨D1, oa1, on1, oc1, os1, ma1, mn1, mc1, M1, age1, rfl, e, hon1, hmn1, hos1, hM1, hag1, hoq1, hly1, hRf1⟩; obtain rfl := e.symm
       obtain rfl : M1 = [] := mg_nil.1 hM1
       obtain rfl : mn1 = 0 := hmn1
       have hz1 : usedM (mg []) = 0 := rfl
       have hlo1 := flush_on hon1 hos1
       refine RL.p T ?_
       refine RL.nil _ _ _ _ ?_
       refine hK6 _ _ _ ?_
       refine SW.seq_k fun K8 hK8 => ?_
       refine SW.region _ _ _ _ ?_
       refine RL.bs T rfl rfl rfl (by exact (rfl : _ = some [])) (fun b35_1 => ?_)
       refine RL.p T ?_
       refine RL.lv1 T ?_
       refine RL.apI (ki := .u8) (xs := []) (ys := p.data) T (fun a0_ c0_ => ?_) (hR := fun hs => by repeat first | exact hp.rd | apply Rd.cons | apply Rd.app)
       refine RL.p T ?_
       refine RL.sv1 T ?_
       refine RL.nil _ _ _ _ ?_
       refine hK8 _ _ _ ?_
       refine SW.seq_k fun K9 hK9 => ?_
       refine SW.draw [(40, 0), (41, 1), (42, 2), (43, 3), (44, 4), (45, 5), (46, 6), (47, 7), (48, 8), (49, 9), (50, 10), (51, 11)] [[], [], [], [2], [3, 2], [4, 3, 2], [1, 5, 4, 3, 2], [], [7], [6, 1, 5, 4, 3, 2, 8, 7], [0, 1, 2, 3, 4, 5, 6, 7, 8, 9], [10, 0, 1, 2, 3, 4, 5, 6, 7, 8, 9], [11, 10, 0, 1, 2, 3, 4, 5, 6, 7, 8, 9]] mixed (by kernel_rfl) (by kernel_rfl) ?_
       refine RD.p T ?_
       refine RD.p T ?_
       refine RD.p T ?_
       refine RD.p T ?_
       refine RD.q rfl rfl (Gd.none rfl) (by first | exact QV.load_var1 T rfl rfl rfl rfl (by repeat first | exact At.head _ _ | assumption | exact At.put (by assumption) _ | apply At.tail | apply At.app) rfl | exact QV.load_varN T rfl rfl rfl rfl rfl (by repeat first | exact At.head _ _ | assumption | exact At.put (by assumption) _ | apply At.tail | apply At.app) (by exact (rfl : _ = [_])) rfl | exact QV.load_elem T rfl rfl rfl rfl (by assumption) (by first | exact map_get _ _ (by omega) | assumption)) ?_
       refine RD.q rfl rfl (Gd.none rfl) (QV.vN T rfl rfl rfl rfl rfl (by exact (rfl : _ = [_, _]))) ?_
       apply RD.shareR
       ·intro hsh0
        refine RD.many rfl rfl (.cons ?_ (.cons ?_ .nil))
        ·skip
         refine RD1.nv rfl (Gd.none rfl) ?_
         refine NV.buildSlice T rfl rfl rfl (Nat.le_of_ble_eq_true rfl) (by exact (rfl : _ = some [])) ?_
         intro b41_2
         refine ⟨(Stab.cons rfl (Gd.none rfl) (QV.vN T rfl rfl rfl rfl rfl rfl) (Stab.cons rfl (Gd.none rfl) (by first | exact QV.load_var1 T rfl rfl rfl rfl (by repeat first | exact At.head _ _ | assumption | exact At.put (by assumption) _ | apply At.tail | apply At.app) rfl | exact QV.load_varN T rfl rfl rfl rfl rfl (by repeat first | exact At.head _ _ | assumption | exact At.put (by assumption) _ | apply At.tail | apply At.app) rfl rfl | exact QV.load_elem T rfl rfl rfl rfl (by assumption) (by first | exact map_get _ _ (by omega) | assumption)) (Stab.cons rfl (Gd.none rfl) (pev_sound T rfl) (Stab.cons rfl (Gd.none rfl) (pev_sound T rfl) (Stab.cons rfl (Gd.none rfl) (pev_sound T rfl) (Stab.cons rfl (Gd.none rfl) (pev_sound T rfl) Stab.nil)))))), ?_⟩
         refine RD.many rfl rfl (.cons ?_ (.cons ?_ .nil))
         ·skip
          refine RD1.nv rfl (Gd.none rfl) ?_
          refine NV.apR (enc := PdC) T [] (fun aq cq => ?_) (hR := fun hs => by repeat first | exact hR | exact hRf1 _ hR.cons | apply Rd.cons | apply Rd.app)
          refine ⟨(Stab.cons rfl (Gd.none rfl) (QV.vN T rfl rfl rfl rfl rfl rfl) (Stab.cons rfl (Gd.none rfl) (pev_sound T rfl) Stab.nil)), ?_⟩
          refine RD.nv rfl rfl rfl (Gd.none rfl) ?_
          refine NV.build1 T rfl (by conv => lhs; whnf) rfl rfl (by conv => lhs; whnf) (by exact (rfl : _ = some [_, _])) ?_
          intro b48_3
          refine ⟨(Stab.cons rfl (Gd.none rfl) (by first | exact QV.load_var1 T rfl rfl rfl rfl (by repeat first | exact At.head _ _ | assumption | exact At.put (by assumption) _ | apply At.tail | apply At.app) rfl | exact QV.load_varN T rfl rfl rfl rfl rfl (by repeat first | exact At.head _ _ | assumption | exact At.put (by assumption) _ | apply At.tail | apply At.app) rfl rfl | exact QV.load_elem T rfl rfl rfl rfl (by assumption) (by first | exact map_get _ _ (by omega) | assumption)) (Stab.cons rfl (Gd.none rfl) (pev_sound T rfl) (Stab.cons rfl (Gd.none rfl) (pev_sound T rfl) (Stab.cons rfl (Gd.none rfl) (pev_sound T rfl) (Stab.cons rfl (Gd.none rfl) (pev_sound T rfl) Stab.nil))))), ?_⟩
          refine RD.nv rfl rfl rfl (Gd.none rfl) ?_
          refine NV.apR (enc := PdC) T _ (ys := [(⟨p.id, p.data, a0_, 0 + p.n, c0_⟩ : Pd)]) (fun a1 c1 => ?_) (holds := by first | rfl | (rw [List.nil_append]))
          refine ⟨(Stab.cons rfl (Gd.none rfl) (pev_sound T rfl) Stab.nil), ?_⟩
          refine RD.p T ?_
          refine RD.p T ?_
          refine RD.nv rfl rfl rfl (Gd.none rfl) ?_
          first
            | refine NV.store_var1 T rfl rfl rfl rfl (by conv => lhs; whnf) rfl (by repeat first | exact At.head _ _ | assumption | exact At.put (by assumption) _ | apply At.tail | apply At.app) rfl rfl ?_
            | refine NV.store_var T rfl rfl rfl (by exact (rfl : _ = [_])) rfl rfl (by repeat first | exact At.head _ _ | assumption | exact At.put (by assumption) _ | apply At.tail | apply At.app) (Nat.le_of_ble_eq_true rfl) rfl ?_
            | refine NV.store_elem T rfl rfl rfl rfl (by conv => lhs; whnf) rfl (by repeat first | exact At.head _ _ | assumption | exact At.put (by assumption) _ | apply At.tail | apply At.app) (by omega) ?_
          refine ⟨Stab.nil, ?_⟩
          refine RD.k rfl rfl ?_
          exact hsh0 a1 c1 aq cq b48_3 b41_2 _ (by first | exact .refl _ | exact .swap _ _ _ | exact .cons _ (.swap _ _ _) | exact .trans (.swap _ _ _) (.cons _ (.swap _ _ _)) | exact .trans (.cons _ (.swap _ _ _)) (.swap _ _ _) | exact .trans (.swap _ _ _) (.trans (.cons _ (.swap _ _ _)) (.swap _ _ _)))
         ·skip
          refine RD1.nv rfl (Gd.none rfl) ?_
          refine NV.build1 T rfl (by conv => lhs; whnf) rfl rfl (by conv => lhs; whnf) (by exact (rfl : _ = some [_, _])) ?_
          intro b48_3
          refine ⟨(Stab.cons rfl (Gd.none rfl) (by first | exact QV.load_var1 T rfl rfl rfl rfl (by repeat first | exact At.head _ _ | assumption | exact At.put (by assumption) _ | apply At.tail | apply At.app) rfl | exact QV.load_varN T rfl rfl rfl rfl rfl (by repeat first | exact At.head _ _ | assumption | exact At.put (by assumption) _ | apply At.tail | apply At.app) rfl rfl | exact QV.load_elem T rfl rfl rfl rfl (by assumption) (by first | exact map_get _ _ (by omega) | assumption)) (Stab.cons rfl (Gd.none rfl) (pev_sound T rfl) (Stab.cons rfl (Gd.none rfl) (pev_sound T rfl) (Stab.cons rfl (Gd.none rfl) (pev_sound T rfl) (Stab.cons rfl (Gd.none rfl) (pev_sound T rfl) Stab.nil))))), ?_⟩
          refine RD.nv rfl rfl rfl (Gd.none rfl) ?_
          refine NV.apR (enc := PdC) T [] (fun aq cq => ?_) (hR := fun hs => by repeat first | exact hR | exact hRf1 _ hR.cons | apply Rd.cons | apply Rd.app)
          refine ⟨(Stab.cons rfl (Gd.none rfl) (QV.vN T rfl rfl rfl rfl rfl rfl) (Stab.cons rfl (Gd.none rfl) (pev_sound T rfl) Stab.nil)), ?_⟩
          refine RD.nv rfl rfl rfl (Gd.none rfl) ?_
          refine NV.apR (enc := PdC) T _ (ys := [(⟨p.id, p.data, a0_, 0 + p.n, c0_⟩ : Pd)]) (fun a1 c1 => ?_) (holds := by first | rfl | (rw [List.nil_append]))
          refine ⟨(Stab.cons rfl (Gd.none rfl) (pev_sound T rfl) Stab.nil), ?_⟩
          refine RD.p T ?_
          refine RD.p T ?_
          refine RD.nv rfl rfl rfl (Gd.none rfl) ?_
          first
            | refine NV.store_var1 T rfl rfl rfl rfl (by conv => lhs; whnf) rfl (by repeat first | exact At.head _ _ | assumption | exact At.put (by assumption) _ | apply At.tail | apply At.app) rfl rfl ?_
            | refine NV.store_var T rfl rfl rfl (by exact (rfl : _ = [_])) rfl rfl (by repeat first | exact At.head _ _ | assumption | exact At.put (by assumption) _ | apply At.tail | apply At.app) (Nat.le_of_ble_eq_true rfl) rfl ?_
            | refine NV.store_elem T rfl rfl rfl rfl (by conv => lhs; whnf) rfl (by repeat first | exact At.head _ _ | assumption | exact At.put (by assumption) _ | apply At.tail | apply At.app) (by omega) ?_
          refine ⟨Stab.nil, ?_⟩
          refine RD.k rfl rfl ?_
          exact hsh0 a1 c1 aq cq b48_3 b41_2 _ (by first | exact .refl _ | exact .swap _ _ _ | exact .cons _ (.swap _ _ _) | exact .trans (.swap _ _ _) (.cons _ (.swap _ _ _)) | exact .trans (.cons _ (.swap _ _ _)) (.swap _ _ _) | exact .trans (.swap _ _ _) (.trans (.cons _ (.swap _ _ _)) (.swap _ _ _)))
        ·skip
         refine RD1.nv rfl (Gd.none rfl) ?_
         refine NV.build1 T rfl (by conv => lhs; whnf) rfl rfl (by conv => lhs; whnf) (by exact (rfl : _ = some [_, _])) ?_
         intro b48_2
         refine ⟨(Stab.cons rfl (Gd.none rfl) (by first | exact QV.load_var1 T rfl rfl rfl rfl (by repeat first | exact At.head _ _ | assumption | exact At.put (by assumption) _ | apply At.tail | apply At.app) rfl | exact QV.load_varN T rfl rfl rfl rfl rfl (by repeat first | exact At.head _ _ | assumption | exact At.put (by assumption) _ | apply At.tail | apply At.app) rfl rfl | exact QV.load_elem T rfl rfl rfl rfl (by assumption) (by first | exact map_get _ _ (by omega) | assumption)) (Stab.cons rfl (Gd.none rfl) (pev_sound T rfl) (Stab.cons rfl (Gd.none rfl) (pev_sound T rfl) (Stab.cons rfl (Gd.none rfl) (pev_sound T rfl) (Stab.cons rfl (Gd.none rfl) (pev_sound T rfl) Stab.nil))))), ?_⟩
         refine RD.nv rfl rfl rfl (Gd.none rfl) ?_
         refine NV.buildSlice T rfl rfl rfl (Nat.le_of_ble_eq_true rfl) (by exact (rfl : _ = some [])) ?_
         intro b41_3
         refine ⟨(Stab.cons rfl (Gd.none rfl) (QV.vN T rfl rfl rfl rfl rfl rfl) (Stab.cons rfl (Gd.none rfl) (by first | exact QV.load_var1 T rfl rfl rfl rfl (by repeat first | exact At.head _ _ | assumption | exact At.put (by assumption) _ | apply At.tail | apply At.app) rfl | exact QV.load_varN T rfl rfl rfl rfl rfl (by repeat first | exact At.head _ _ | assumption | exact At.put (by assumption) _ | apply At.tail | apply At.app) rfl rfl | exact QV.load_elem T rfl rfl rfl rfl (by assumption) (by first | exact map_get _ _ (by omega) | assumption)) (Stab.cons rfl (Gd.none rfl) (pev_sound T rfl) (Stab.cons rfl (Gd.none rfl) (pev_sound T rfl) (Stab.cons rfl (Gd.none rfl) (pev_sound T rfl) (Stab.cons rfl (Gd.none rfl) (pev_sound T rfl) Stab.nil)))))), ?_⟩
         refine RD.nv rfl rfl rfl (Gd.none rfl) ?_
         refine NV.apR (enc := PdC) T [] (fun aq cq => ?_) (hR := fun hs => by repeat first | exact hR | exact hRf1 _ hR.cons | apply Rd.cons | apply Rd.app)
         refine ⟨(Stab.cons rfl (Gd.none rfl) (QV.vN T rfl rfl rfl rfl rfl rfl) (Stab.cons rfl (Gd.none rfl) (pev_sound T rfl) Stab.nil)), ?_⟩
         refine RD.nv rfl rfl rfl (Gd.none rfl) ?_
         refine NV.apR (enc := PdC) T _ (ys := [(⟨p.id, p.data, a0_, 0 + p.n, c0_⟩ : Pd)]) (fun a1 c1 => ?_) (holds := by first | rfl | (rw [List.nil_append]))
         refine ⟨(Stab.cons rfl (Gd.none rfl) (pev_sound T rfl) Stab.nil), ?_⟩
         refine RD.p T ?_
         refine RD.p T ?_
         refine RD.nv rfl rfl rfl (Gd.none rfl) ?_
         first
           | refine NV.store_var1 T rfl rfl rfl rfl (by conv => lhs; whnf) rfl (by repeat first | exact At.head _ _ | assumption | exact At.put (by assumption) _ | apply At.tail | apply At.app) rfl rfl ?_
           | refine NV.store_var T rfl rfl rfl (by exact (rfl : _ = [_])) rfl rfl (by repeat first | exact At.head _ _ | assumption | exact At.put (by assumption) _ | apply At.tail | apply At.app) (Nat.le_of_ble_eq_true rfl) rfl ?_
           | refine NV.store_elem T rfl rfl rfl rfl (by conv => lhs; whnf) rfl (by repeat first | exact At.head _ _ | assumption | exact At.put (by assumption) _ | apply At.tail | apply At.app) (by omega) ?_
         refine ⟨Stab.nil, ?_⟩
         refine RD.k rfl rfl ?_
         exact hsh0 a1 c1 aq cq b48_2 b41_3 _ (by first | exact .refl _ | exact .swap _ _ _ | exact .cons _ (.swap _ _ _) | exact .trans (.swap _ _ _) (.cons _ (.swap _ _ _)) | exact .trans (.cons _ (.swap _ _ _)) (.swap _ _ _) | exact .trans (.swap _ _ _) (.trans (.cons _ (.swap _ _ _)) (.swap _ _ _)))
       ·intro a1 c1 aq cq b48_2 b41_3 Hp8 hp8
        refine hK9 _ _ _ ?_
        refine SW.perm' hp8 ?_
        refine SW.seq_k fun K10 hK10 => ?_
        refine SW.seq_k fun K11 hK11 => ?_
        have hq1 : ∀ L : List Pd, usedM (mg (L ++ [(⟨p.id, p.data, a0_, 0 + p.n, c0_⟩ : Pd)])) = usedM (mg L) + wk (mgP p) := fun L => by rw [mg_app, usedM_app, show mg [(⟨p.id, p.data, a0_, 0 + p.n, c0_⟩ : Pd)] = [mgP p] from rfl, usedM_one]
        have hqA := hq1 []
        have hqN := hq1 M
        have hz0 : usedM (mg []) = 0 := rfl
        refine SW.drawQ [(52, 0), (53, 1), (54, 2), (55, 3), (56, 4), (57, 5), (58, 6), (59, 7)] [[], [0], [1, 0], [2, 1, 0], [], [4], [3, 2, 1, 0, 5, 4], [6, 3, 2, 1, 0, 5, 4]] mixed (by kernel_rfl) (by kernel_rfl) ?_
        refine QL.p T ?_
        refine QL.p T ?_
        refine QL.p T ?_
        first | refine QL.lv1 T ?_ | refine QL.le T ?_
        refine QL.p T ?_
        refine QL.c fun26 (fun hs => rused bm room wait age1 a1 (0 + 0 + 1) c1 (by repeat first | exact At.head _ _ | apply At.tail | apply At.app) ([] ++ [(⟨p.id, p.data, a0_, 0 + p.n, c0_⟩ : Pd)]) (Rd.rowh hs (by repeat first | exact At.head _ _ | apply At.tail | apply At.app)) (by simp <;> omega) (by rw [mg_app, usedM_app]; have : usedM (mg [(⟨p.id, p.data, a0_, 0 + p.n, c0_⟩ : Pd)]) = wk (mgP p) := usedM_one _; omega) (fun y hy => (List.mem_append.1 hy).elim (fun hy => by cases hy) (fun hy => by rw [List.mem_singleton.1 hy]; exact ⟨hp.id, (Nat.zero_add _).trans hp.len, Nat.le_trans (Nat.le_of_eq (Nat.zero_add p.n)) hp.max, hp.byte, Rd.rowh hs (by repeat first | exact At.head _ _ | apply At.tail | apply At.app)⟩))) ?_
        first | refine QL.ar ?_ | refine QL.p T ?_
        refine QL.p T ?_
        refine QL.nil ?_
        refine hK11 _ _ _ ?_
        refine SW.cs (fun hc2 => ?_) (fun hc2 => ?_)
        ·skip
         first
          | (exfalso; first | omega | contradiction | (clear hK11 K11; clear hK10 K10; clear hK9 K9; clear hK8 K8; clear hK7 K7; clear hK6 K6; clear hK5 K5; clear hK3 K3; clear hK2 K2; clear hK1 K1; clear hK0 K0; simp at *; done))
          | (
           refine SW.region _ _ _ _ ?_
           refine RL.p T ?_
           refine RL.p T ?_
           refine RL.c fun16 (fun hs => SC.wk (rflushV bm room wait age1 a1 (0 + 0 + 1) c1 ([] ++ [(⟨p.id, p.data, a0_, 0 + p.n, c0_⟩ : Pd)]) (Rd.rowh (satT (H0 := .row a1 (0 + 0 + 1) c1 25 2 (List.flatMap PdC ([] ++ [(⟨p.id, p.data, a0_, 0 + p.n, c0_⟩ : Pd)])) :: .row a0_ (0 + p.n) c0_ 5 1 (List.map (Value.int .u8) ([] ++ p.data)) :: .row oa1 on1 oc1 23 1 (List.flatMap SlC os1) :: (D1 ++ H)) hs) (At.head _ _)) (by simp <;> omega) (by rw [mg_app, usedM_app]; have : usedM (mg [(⟨p.id, p.data, a0_, 0 + p.n, c0_⟩ : Pd)]) = wk (mgP p) := usedM_one _; omega) (fun y hy => (List.mem_append.1 hy).elim (fun hy => by cases hy) (fun hy => by rw [List.mem_singleton.1 hy]; exact (⟨hp.id, (Nat.zero_add _).trans hp.len, Nat.le_trans (Nat.le_of_eq (Nat.zero_add p.n)) hp.max, hp.byte, Rd.rowh (satT (H0 := .row a1 (0 + 0 + 1) c1 25 2 (List.flatMap PdC ([] ++ [(⟨p.id, p.data, a0_, 0 + p.n, c0_⟩ : Pd)])) :: .row a0_ (0 + p.n) c0_ 5 1 (List.map (Value.int .u8) ([] ++ p.data)) :: .row oa1 on1 oc1 23 1 (List.flatMap SlC os1) :: (D1 ++ H)) hs) (At.tail (At.head _ _))⟩ : PdOk w0 (.row a1 (0 + 0 + 1) c1 25 2 (List.flatMap PdC ([] ++ [(⟨p.id, p.data, a0_, 0 + p.n, c0_⟩ : Pd)])) :: .row a0_ (0 + p.n) c0_ 5 1 (List.map (Value.int .u8) ([] ++ p.data)) :: .row oa1 on1 oc1 23 1 (List.flatMap SlC os1) :: (D1 ++ H)) (⟨p.id, p.data, a0_, 0 + p.n, c0_⟩ : Pd)))) (H := .row a1 (0 + 0 + 1) c1 25 2 (List.flatMap PdC ([] ++ [(⟨p.id, p.data, a0_, 0 + p.n, c0_⟩ : Pd)])) :: .row a0_ (0 + p.n) c0_ 5 1 (List.map (Value.int .u8) ([] ++ p.data)) :: .row oa1 on1 oc1 23 1 (List.flatMap SlC os1) :: (D1 ++ H)))) ?_
           rintro _ _ ⟨D2, oa2, on2, oc2, os2, ma2, mn2, mc2, M2, age2, rfl, e, hon2, hmn2, hos2, hM2, hag2, hoq2, hly2, hRf2⟩; obtain rfl := e.symm
           have hlo2 := flush_on hon2 hos2
           refine RL.apR (enc := SlC) T _ (ys := os2) (fun a5_ c5_ => ?_)
           refine RL.p T ?_
           refine RL.nil _ _ _ _ ?_
           refine hK10 _ _ _ ?_
           refine SW.seq_k fun K12 hK12 => ?_
           refine SW.region _ _ _ _ ?_
           refine RL.p T ?_
           refine RL.p T ?_
           refine RL.p T ?_
           refine RL.nil _ _ _ _ ?_
           refine hK12 _ _ _ ?_
           refine SW.sat (fun hs => ?_)
           refine SW.ret ?_
           refine retQ.wk (.row a5_ (on1 + on2) c5_ 23 1 (List.flatMap SlC (os1 ++ os2)) :: .var bm 55 [.int .i64 ((room : Nat) : Int), .int .i64 ((wait : Nat) : Int), .int .i64 ((age2 : Nat) : Int), .slice ma2 mn2 mc2] :: ((D2 ++ (.row a1 (0 + 0 + 1) c1 25 2 (List.flatMap PdC ([] ++ [(⟨p.id, p.data, a0_, 0 + p.n, c0_⟩ : Pd)])) :: .row a0_ (0 + p.n) c0_ 5 1 (List.map (Value.int .u8) ([] ++ p.data)) :: D1)) ++ H)) ?_
           refine retQ.rr _ ?_ (hH := fun w hw => hw)
           clear hK12 K12 hK11 K11 hK10 K10 hK9 K9 hK8 K8 hK7 K7 hK6 K6 hK5 K5 hK3 K3 hK2 K2 hK1 K1 hK0 K0
           have hA := addAB (room := room) (ms := mg M) (m := mgP p) (by omega) h (by omega)
           have hO : outD (os1 ++ os2) = addO room (mg M) (mgP p) := by rw [hA.1, outD_app, hos1, hos2]; rfl
           refine ⟨D2 ++ (.row a1 (0 + 0 + 1) c1 25 2 (List.flatMap PdC ([] ++ [(⟨p.id, p.data, a0_, 0 + p.n, c0_⟩ : Pd)])) :: .row a0_ (0 + p.n) c0_ 5 1 (List.map (Value.int .u8) ([] ++ p.data)) :: D1), a5_, on1 + on2, c5_, os1 ++ os2, ma2, mn2, mc2, M2, age2, rfl, rfl, by simp [hon1, hon2], hmn2, hO, by rw [hA.2, hM2], ?_, fun q hq => (List.mem_append.1 hq).elim (fun g => (hoq1 q g).sub SubL.by) (fun g => (hoq2 q g).sub SubL.by), mg_none hM2, fun G hG => SubL.rd (T := D2 ++ [.row a1 (0 + 0 + 1) c1 25 2 (List.flatMap PdC ([] ++ [(⟨p.id, p.data, a0_, 0 + p.n, c0_⟩ : Pd)]))]) SubL.by (hRf2 _ (Rd.rowh (satT (H0 := [.row a1 (0 + 0 + 1) c1 25 2 (List.flatMap PdC ([] ++ [(⟨p.id, p.data, a0_, 0 + p.n, c0_⟩ : Pd)]))]) hs) (At.head _ _)))⟩
           rw [hO, ageO_ne (by rw [hA.1]; simp [flushO])]
           rw [hag2, if_neg (by simp)]
           )
        ·skip
         first
          | (exfalso; first | omega | contradiction | (clear hK11 K11; clear hK10 K10; clear hK9 K9; clear hK8 K8; clear hK7 K7; clear hK6 K6; clear hK5 K5; clear hK3 K3; clear hK2 K2; clear hK1 K1; clear hK0 K0; simp at *; done))
          | (
           refine SW.skip ?_
           refine hK10 _ _ _ ?_
           refine SW.seq_k fun K13 hK13 => ?_
           refine SW.region _ _ _ _ ?_
           refine RL.p T ?_
           refine RL.p T ?_
           refine RL.p T ?_
           refine RL.nil _ _ _ _ ?_
           refine hK13 _ _ _ ?_
           refine SW.sat (fun hs => ?_)
           refine SW.ret ?_
           refine retQ.wk (.row oa1 on1 oc1 23 1 (List.flatMap SlC os1) :: .var bm 55 [.int .i64 ((room : Nat) : Int), .int .i64 ((wait : Nat) : Int), .int .i64 ((age1 : Nat) : Int), .slice a1 (0 + 0 + 1) c1] :: ((.row a1 (0 + 0 + 1) c1 25 2 (List.flatMap PdC ([] ++ [(⟨p.id, p.data, a0_, 0 + p.n, c0_⟩ : Pd)])) :: .row a0_ (0 + p.n) c0_ 5 1 (List.map (Value.int .u8) ([] ++ p.data)) :: D1) ++ H)) ?_
           refine retQ.rr _ ?_ (hH := fun w hw => hw)
           clear hK13 K13 hK11 K11 hK10 K10 hK9 K9 hK8 K8 hK7 K7 hK6 K6 hK5 K5 hK3 K3 hK2 K2 hK1 K1 hK0 K0
           have hA := addAn (room := room) (ms := mg M) (m := mgP p) (by omega) h (by omega)
           have hO : outD os1 = addO room (mg M) (mgP p) := by rw [hA.1, hos1]
           have hne := add_ne (room := room) (ms := mg M) (m := mgP p) (by omega) h
           refine ⟨.row a1 (0 + 0 + 1) c1 25 2 (List.flatMap PdC ([] ++ [(⟨p.id, p.data, a0_, 0 + p.n, c0_⟩ : Pd)])) :: .row a0_ (0 + p.n) c0_ 5 1 (List.map (Value.int .u8) ([] ++ p.data)) :: D1, oa1, on1, oc1, os1, a1, 0 + 0 + 1, c1, [] ++ [(⟨p.id, p.data, a0_, 0 + p.n, c0_⟩ : Pd)], age1, rfl, rfl, hon1, rfl, hO, by rw [hA.2]; rfl, ?_, fun q hq => (hoq1 q hq).sub SubL.by, fun y hy => .inr ?_, fun G hG => SubL.rd (T := [.row a1 (0 + 0 + 1) c1 25 2 (List.flatMap PdC ([] ++ [(⟨p.id, p.data, a0_, 0 + p.n, c0_⟩ : Pd)]))]) SubL.by (Rd.rowh (satT (H0 := [.row a1 (0 + 0 + 1) c1 25 2 (List.flatMap PdC ([] ++ [(⟨p.id, p.data, a0_, 0 + p.n, c0_⟩ : Pd)]))]) hs) (At.head _ _))⟩
           · rw [hO, ageO_ne (by rw [hA.1, flushO_ne hne]; simp), hag1, if_neg (fun e => hne (by rw [e]; rfl))]
           · rw [List.mem_singleton.1 hy]
             exact PdOk.sub (T := [.row a0_ (0 + p.n) c0_ 5 1 (List.map (Value.int .u8) ([] ++ p.data))]) ⟨hp.id, (Nat.zero_add _).trans hp.len, Nat.le_trans (Nat.le_of_eq (Nat.zero_add p.n)) hp.max, hp.byte, Rd.rowh (satT (H0 := [.row a0_ (0 + p.n) c0_ 5 1 (List.map (Value.int .u8) ([] ++ p.data))]) hs) (At.head _ _)⟩ SubL.by
           )
       )
    ·skip
     first
      | (exfalso; first | omega | contradiction | (clear hK7 K7; clear hK6 K6; clear hK5 K5; clear hK3 K3; clear hK2 K2; clear hK1 K1; clear hK0 K0; simp at *; done))
      | (
       refine SW.skip ?_
       refine hK6 _ _ _ ?_
       refine SW.seq_k fun K14 hK14 => ?_
       refine SW.region _ _ _ _ ?_
       refine RL.bs T rfl rfl rfl (by exact (rfl : _ = some [])) (fun b35_4 => ?_)
       refine RL.p T ?_
       refine RL.lv1 T ?_
       refine RL.apI (ki := .u8) (xs := []) (ys := p.data) T (fun a0_ c0_ => ?_) (hR := fun hs => by repeat first | exact hp.rd | apply Rd.cons | apply Rd.app)
       refine RL.p T ?_
       refine RL.sv1 T ?_
       refine RL.nil _ _ _ _ ?_
       refine hK14 _ _ _ ?_
       refine SW.seq_k fun K15 hK15 => ?_
       refine SW.draw [(40, 0), (41, 1), (42, 2), (43, 3), (44, 4), (45, 5), (46, 6), (47, 7), (48, 8), (49, 9), (50, 10), (51, 11)] [[], [], [], [2], [3, 2], [4, 3, 2], [1, 5, 4, 3, 2], [], [7], [6, 1, 5, 4, 3, 2, 8, 7], [0, 1, 2, 3, 4, 5, 6, 7, 8, 9], [10, 0, 1, 2, 3, 4, 5, 6, 7, 8, 9], [11, 10, 0, 1, 2, 3, 4, 5, 6, 7, 8, 9]] mixed (by kernel_rfl) (by kernel_rfl) ?_
       refine RD.p T ?_
       refine RD.p T ?_
       refine RD.p T ?_
       refine RD.p T ?_
       refine RD.q rfl rfl (Gd.none rfl) (by first | exact QV.load_var1 T rfl rfl rfl rfl (by repeat first | exact At.head _ _ | assumption | exact At.put (by assumption) _ | apply At.tail | apply At.app) rfl | exact QV.load_varN T rfl rfl rfl rfl rfl (by repeat first | exact At.head _ _ | assumption | exact At.put (by assumption) _ | apply At.tail | apply At.app) (by exact (rfl : _ = [_])) rfl | exact QV.load_elem T rfl rfl rfl rfl (by assumption) (by first | exact map_get _ _ (by omega) | assumption)) ?_
       refine RD.q rfl rfl (Gd.none rfl) (QV.vN T rfl rfl rfl rfl rfl (by exact (rfl : _ = [_, _]))) ?_
       apply RD.shareR
       ·intro hsh1
        refine RD.many rfl rfl (.cons ?_ (.cons ?_ .nil))
        ·skip
         refine RD1.nv rfl (Gd.none rfl) ?_
         refine NV.buildSlice T rfl rfl rfl (Nat.le_of_ble_eq_true rfl) (by exact (rfl : _ = some [])) ?_
         intro b41_5
         refine ⟨(Stab.cons rfl (Gd.none rfl) (QV.vN T rfl rfl rfl rfl rfl rfl) (Stab.cons rfl (Gd.none rfl) (by first | exact QV.load_var1 T rfl rfl rfl rfl (by repeat first | exact At.head _ _ | assumption | exact At.put (by assumption) _ | apply At.tail | apply At.app) rfl | exact QV.load_varN T rfl rfl rfl rfl rfl (by repeat first | exact At.head _ _ | assumption | exact At.put (by assumption) _ | apply At.tail | apply At.app) rfl rfl | exact QV.load_elem T rfl rfl rfl rfl (by assumption) (by first | exact map_get _ _ (by omega) | assumption)) (Stab.cons rfl (Gd.none rfl) (pev_sound T rfl) (Stab.cons rfl (Gd.none rfl) (pev_sound T rfl) (Stab.cons rfl (Gd.none rfl) (pev_sound T rfl) (Stab.cons rfl (Gd.none rfl) (pev_sound T rfl) Stab.nil)))))), ?_⟩
         refine RD.many rfl rfl (.cons ?_ (.cons ?_ .nil))
         ·skip
          refine RD1.nv rfl (Gd.none rfl) ?_
          refine NV.apR (enc := PdC) T [] (fun aq cq => ?_) (hR := fun hs => by repeat first | exact hR | exact hRf1 _ hR.cons | apply Rd.cons | apply Rd.app)
          refine ⟨(Stab.cons rfl (Gd.none rfl) (QV.vN T rfl rfl rfl rfl rfl rfl) (Stab.cons rfl (Gd.none rfl) (pev_sound T rfl) Stab.nil)), ?_⟩
          refine RD.nv rfl rfl rfl (Gd.none rfl) ?_
          refine NV.build1 T rfl (by conv => lhs; whnf) rfl rfl (by conv => lhs; whnf) (by exact (rfl : _ = some [_, _])) ?_
          intro b48_6
          refine ⟨(Stab.cons rfl (Gd.none rfl) (by first | exact QV.load_var1 T rfl rfl rfl rfl (by repeat first | exact At.head _ _ | assumption | exact At.put (by assumption) _ | apply At.tail | apply At.app) rfl | exact QV.load_varN T rfl rfl rfl rfl rfl (by repeat first | exact At.head _ _ | assumption | exact At.put (by assumption) _ | apply At.tail | apply At.app) rfl rfl | exact QV.load_elem T rfl rfl rfl rfl (by assumption) (by first | exact map_get _ _ (by omega) | assumption)) (Stab.cons rfl (Gd.none rfl) (pev_sound T rfl) (Stab.cons rfl (Gd.none rfl) (pev_sound T rfl) (Stab.cons rfl (Gd.none rfl) (pev_sound T rfl) (Stab.cons rfl (Gd.none rfl) (pev_sound T rfl) Stab.nil))))), ?_⟩
          refine RD.nv rfl rfl rfl (Gd.none rfl) ?_
          refine NV.apR (enc := PdC) T _ (ys := [(⟨p.id, p.data, a0_, 0 + p.n, c0_⟩ : Pd)]) (fun a1 c1 => ?_) (holds := by first | rfl | (rw [List.nil_append]))
          refine ⟨(Stab.cons rfl (Gd.none rfl) (pev_sound T rfl) Stab.nil), ?_⟩
          refine RD.p T ?_
          refine RD.p T ?_
          refine RD.nv rfl rfl rfl (Gd.none rfl) ?_
          first
            | refine NV.store_var1 T rfl rfl rfl rfl (by conv => lhs; whnf) rfl (by repeat first | exact At.head _ _ | assumption | exact At.put (by assumption) _ | apply At.tail | apply At.app) rfl rfl ?_
            | refine NV.store_var T rfl rfl rfl (by exact (rfl : _ = [_])) rfl rfl (by repeat first | exact At.head _ _ | assumption | exact At.put (by assumption) _ | apply At.tail | apply At.app) (Nat.le_of_ble_eq_true rfl) rfl ?_
            | refine NV.store_elem T rfl rfl rfl rfl (by conv => lhs; whnf) rfl (by repeat first | exact At.head _ _ | assumption | exact At.put (by assumption) _ | apply At.tail | apply At.app) (by omega) ?_
          refine ⟨Stab.nil, ?_⟩
          refine RD.k rfl rfl ?_
          exact hsh1 a1 c1 aq cq b48_6 b41_5 _ (by first | exact .refl _ | exact .swap _ _ _ | exact .cons _ (.swap _ _ _) | exact .trans (.swap _ _ _) (.cons _ (.swap _ _ _)) | exact .trans (.cons _ (.swap _ _ _)) (.swap _ _ _) | exact .trans (.swap _ _ _) (.trans (.cons _ (.swap _ _ _)) (.swap _ _ _)))
         ·skip
          refine RD1.nv rfl (Gd.none rfl) ?_
          refine NV.build1 T rfl (by conv => lhs; whnf) rfl rfl (by conv => lhs; whnf) (by exact (rfl : _ = some [_, _])) ?_
          intro b48_6
          refine ⟨(Stab.cons rfl (Gd.none rfl) (by first | exact QV.load_var1 T rfl rfl rfl rfl (by repeat first | exact At.head _ _ | assumption | exact At.put (by assumption) _ | apply At.tail | apply At.app) rfl | exact QV.load_varN T rfl rfl rfl rfl rfl (by repeat first | exact At.head _ _ | assumption | exact At.put (by assumption) _ | apply At.tail | apply At.app) rfl rfl | exact QV.load_elem T rfl rfl rfl rfl (by assumption) (by first | exact map_get _ _ (by omega) | assumption)) (Stab.cons rfl (Gd.none rfl) (pev_sound T rfl) (Stab.cons rfl (Gd.none rfl) (pev_sound T rfl) (Stab.cons rfl (Gd.none rfl) (pev_sound T rfl) (Stab.cons rfl (Gd.none rfl) (pev_sound T rfl) Stab.nil))))), ?_⟩
          refine RD.nv rfl rfl rfl (Gd.none rfl) ?_
          refine NV.apR (enc := PdC) T [] (fun aq cq => ?_) (hR := fun hs => by repeat first | exact hR | exact hRf1 _ hR.cons | apply Rd.cons | apply Rd.app)
          refine ⟨(Stab.cons rfl (Gd.none rfl) (QV.vN T rfl rfl rfl rfl rfl rfl) (Stab.cons rfl (Gd.none rfl) (pev_sound T rfl) Stab.nil)), ?_⟩
          refine RD.nv rfl rfl rfl (Gd.none rfl) ?_
          refine NV.apR (enc := PdC) T _ (ys := [(⟨p.id, p.data, a0_, 0 + p.n, c0_⟩ : Pd)]) (fun a1 c1 => ?_) (holds := by first | rfl | (rw [List.nil_append]))
          refine ⟨(Stab.cons rfl (Gd.none rfl) (pev_sound T rfl) Stab.nil), ?_⟩
          refine RD.p T ?_
          refine RD.p T ?_
          refine RD.nv rfl rfl rfl (Gd.none rfl) ?_
          first
            | refine NV.store_var1 T rfl rfl rfl rfl (by conv => lhs; whnf) rfl (by repeat first | exact At.head _ _ | assumption | exact At.put (by assumption) _ | apply At.tail | apply At.app) rfl rfl ?_
            | refine NV.store_var T rfl rfl rfl (by exact (rfl : _ = [_])) rfl rfl (by repeat first | exact At.head _ _ | assumption | exact At.put (by assumption) _ | apply At.tail | apply At.app) (Nat.le_of_ble_eq_true rfl) rfl ?_
            | refine NV.store_elem T rfl rfl rfl rfl (by conv => lhs; whnf) rfl (by repeat first | exact At.head _ _ | assumption | exact At.put (by assumption) _ | apply At.tail | apply At.app) (by omega) ?_
          refine ⟨Stab.nil, ?_⟩
          refine RD.k rfl rfl ?_
          exact hsh1 a1 c1 aq cq b48_6 b41_5 _ (by first | exact .refl _ | exact .swap _ _ _ | exact .cons _ (.swap _ _ _) | exact .trans (.swap _ _ _) (.cons _ (.swap _ _ _)) | exact .trans (.cons _ (.swap _ _ _)) (.swap _ _ _) | exact .trans (.swap _ _ _) (.trans (.cons _ (.swap _ _ _)) (.swap _ _ _)))
        ·skip
         refine RD1.nv rfl (Gd.none rfl) ?_
         refine NV.build1 T rfl (by conv => lhs; whnf) rfl rfl (by conv => lhs; whnf) (by exact (rfl : _ = some [_, _])) ?_
         intro b48_5
         refine ⟨(Stab.cons rfl (Gd.none rfl) (by first | exact QV.load_var1 T rfl rfl rfl rfl (by repeat first | exact At.head _ _ | assumption | exact At.put (by assumption) _ | apply At.tail | apply At.app) rfl | exact QV.load_varN T rfl rfl rfl rfl rfl (by repeat first | exact At.head _ _ | assumption | exact At.put (by assumption) _ | apply At.tail | apply At.app) rfl rfl | exact QV.load_elem T rfl rfl rfl rfl (by assumption) (by first | exact map_get _ _ (by omega) | assumption)) (Stab.cons rfl (Gd.none rfl) (pev_sound T rfl) (Stab.cons rfl (Gd.none rfl) (pev_sound T rfl) (Stab.cons rfl (Gd.none rfl) (pev_sound T rfl) (Stab.cons rfl (Gd.none rfl) (pev_sound T rfl) Stab.nil))))), ?_⟩
         refine RD.nv rfl rfl rfl (Gd.none rfl) ?_
         refine NV.buildSlice T rfl rfl rfl (Nat.le_of_ble_eq_true rfl) (by exact (rfl : _ = some [])) ?_
         intro b41_6
         refine ⟨(Stab.cons rfl (Gd.none rfl) (QV.vN T rfl rfl rfl rfl rfl rfl) (Stab.cons rfl (Gd.none rfl) (by first | exact QV.load_var1 T rfl rfl rfl rfl (by repeat first | exact At.head _ _ | assumption | exact At.put (by assumption) _ | apply At.tail | apply At.app) rfl | exact QV.load_varN T rfl rfl rfl rfl rfl (by repeat first | exact At.head _ _ | assumption | exact At.put (by assumption) _ | apply At.tail | apply At.app) rfl rfl | exact QV.load_elem T rfl rfl rfl rfl (by assumption) (by first | exact map_get _ _ (by omega) | assumption)) (Stab.cons rfl (Gd.none rfl) (pev_sound T rfl) (Stab.cons rfl (Gd.none rfl) (pev_sound T rfl) (Stab.cons rfl (Gd.none rfl) (pev_sound T rfl) (Stab.cons rfl (Gd.none rfl) (pev_sound T rfl) Stab.nil)))))), ?_⟩
         refine RD.nv rfl rfl rfl (Gd.none rfl) ?_
         refine NV.apR (enc := PdC) T [] (fun aq cq => ?_) (hR := fun hs => by repeat first | exact hR | exact hRf1 _ hR.cons | apply Rd.cons | apply Rd.app)
         refine ⟨(Stab.cons rfl (Gd.none rfl) (QV.vN T rfl rfl rfl rfl rfl rfl) (Stab.cons rfl (Gd.none rfl) (pev_sound T rfl) Stab.nil)), ?_⟩
         refine RD.nv rfl rfl rfl (Gd.none rfl) ?_
         refine NV.apR (enc := PdC) T _ (ys := [(⟨p.id, p.data, a0_, 0 + p.n, c0_⟩ : Pd)]) (fun a1 c1 => ?_) (holds := by first | rfl | (rw [List.nil_append]))
         refine ⟨(Stab.cons rfl (Gd.none rfl) (pev_sound T rfl) Stab.nil), ?_⟩
         refine RD.p T ?_
         refine RD.p T ?_
         refine RD.nv rfl rfl rfl (Gd.none rfl) ?_
         first
           | refine NV.store_var1 T rfl rfl rfl rfl (by conv => lhs; whnf) rfl (by repeat first | exact At.head _ _ | assumption | exact At.put (by assumption) _ | apply At.tail | apply At.app) rfl rfl ?_
           | refine NV.store_var T rfl rfl rfl (by exact (rfl : _ = [_])) rfl rfl (by repeat first | exact At.head _ _ | assumption | exact At.put (by assumption) _ | apply At.tail | apply At.app) (Nat.le_of_ble_eq_true rfl) rfl ?_
           | refine NV.store_elem T rfl rfl rfl rfl (by conv => lhs; whnf) rfl (by repeat first | exact At.head _ _ | assumption | exact At.put (by assumption) _ | apply At.tail | apply At.app) (by omega) ?_
         refine ⟨Stab.nil, ?_⟩
         refine RD.k rfl rfl ?_
         exact hsh1 a1 c1 aq cq b48_5 b41_6 _ (by first | exact .refl _ | exact .swap _ _ _ | exact .cons _ (.swap _ _ _) | exact .trans (.swap _ _ _) (.cons _ (.swap _ _ _)) | exact .trans (.cons _ (.swap _ _ _)) (.swap _ _ _) | exact .trans (.swap _ _ _) (.trans (.cons _ (.swap _ _ _)) (.swap _ _ _)))
       ·intro a1 c1 aq cq b48_5 b41_6 Hp8 hp8
        refine hK15 _ _ _ ?_
        refine SW.perm' hp8 ?_
        refine SW.seq_k fun K16 hK16 => ?_
        refine SW.seq_k fun K17 hK17 => ?_
        have hq1 : ∀ L : List Pd, usedM (mg (L ++ [(⟨p.id, p.data, a0_, 0 + p.n, c0_⟩ : Pd)])) = usedM (mg L) + wk (mgP p) := fun L => by rw [mg_app, usedM_app, show mg [(⟨p.id, p.data, a0_, 0 + p.n, c0_⟩ : Pd)] = [mgP p] from rfl, usedM_one]
        have hqA := hq1 []
        have hqN := hq1 M
        have hz0 : usedM (mg []) = 0 := rfl
        refine SW.drawQ [(52, 0), (53, 1), (54, 2), (55, 3), (56, 4), (57, 5), (58, 6), (59, 7)] [[], [0], [1, 0], [2, 1, 0], [], [4], [3, 2, 1, 0, 5, 4], [6, 3, 2, 1, 0, 5, 4]] mixed (by kernel_rfl) (by kernel_rfl) ?_
        refine QL.p T ?_
        refine QL.p T ?_
        refine QL.p T ?_
        first | refine QL.lv1 T ?_ | refine QL.le T ?_
        refine QL.p T ?_
        refine QL.c fun26 (fun hs => rused bm room wait age a1 (0 + mn + 1) c1 (by repeat first | exact At.head _ _ | apply At.tail | apply At.app) (M ++ [(⟨p.id, p.data, a0_, 0 + p.n, c0_⟩ : Pd)]) (Rd.rowh hs (by repeat first | exact At.head _ _ | apply At.tail | apply At.app)) (by simp <;> omega) (by rw [mg_app, usedM_app]; have : usedM (mg [(⟨p.id, p.data, a0_, 0 + p.n, c0_⟩ : Pd)]) = wk (mgP p) := usedM_one _; omega) (fun y hy => (List.mem_append.1 hy).elim (fun hy => by repeat first | exact hok y hy | apply PdOk.cons) (fun hy => by rw [List.mem_singleton.1 hy]; exact ⟨hp.id, (Nat.zero_add _).trans hp.len, Nat.le_trans (Nat.le_of_eq (Nat.zero_add p.n)) hp.max, hp.byte, Rd.rowh hs (by repeat first | exact At.head _ _ | apply At.tail | apply At.app)⟩))) ?_
        first | refine QL.ar ?_ | refine QL.p T ?_
        refine QL.p T ?_
        refine QL.nil ?_
        refine hK17 _ _ _ ?_
        refine SW.cs (fun hc3 => ?_) (fun hc3 => ?_)
        ·skip
         first
          | (exfalso; first | omega | contradiction | (clear hK17 K17; clear hK16 K16; clear hK15 K15; clear hK14 K14; clear hK7 K7; clear hK6 K6; clear hK5 K5; clear hK3 K3; clear hK2 K2; clear hK1 K1; clear hK0 K0; simp at *; done))
          | (
           refine SW.region _ _ _ _ ?_
           refine RL.p T ?_
           refine RL.p T ?_
           refine RL.c fun16 (fun hs => SC.wk (rflushV bm room wait age a1 (0 + mn + 1) c1 (M ++ [(⟨p.id, p.data, a0_, 0 + p.n, c0_⟩ : Pd)]) (Rd.rowh (satT (H0 := .row a1 (0 + mn + 1) c1 25 2 (List.flatMap PdC (M ++ [(⟨p.id, p.data, a0_, 0 + p.n, c0_⟩ : Pd)])) :: .row a0_ (0 + p.n) c0_ 5 1 (List.map (Value.int .u8) ([] ++ p.data)) :: .row none 0 0 23 1 (List.flatMap SlC []) :: H) hs) (At.head _ _)) (by simp <;> omega) (by rw [mg_app, usedM_app]; have : usedM (mg [(⟨p.id, p.data, a0_, 0 + p.n, c0_⟩ : Pd)]) = wk (mgP p) := usedM_one _; omega) (fun y hy => (List.mem_append.1 hy).elim (fun hy => by repeat first | exact hok y hy | apply PdOk.cons) (fun hy => by rw [List.mem_singleton.1 hy]; exact (⟨hp.id, (Nat.zero_add _).trans hp.len, Nat.le_trans (Nat.le_of_eq (Nat.zero_add p.n)) hp.max, hp.byte, Rd.rowh (satT (H0 := .row a1 (0 + mn + 1) c1 25 2 (List.flatMap PdC (M ++ [(⟨p.id, p.data, a0_, 0 + p.n, c0_⟩ : Pd)])) :: .row a0_ (0 + p.n) c0_ 5 1 (List.map (Value.int .u8) ([] ++ p.data)) :: .row none 0 0 23 1 (List.flatMap SlC []) :: H) hs) (At.tail (At.head _ _))⟩ : PdOk w0 (.row a1 (0 + mn + 1) c1 25 2 (List.flatMap PdC (M ++ [(⟨p.id, p.data, a0_, 0 + p.n, c0_⟩ : Pd)])) :: .row a0_ (0 + p.n) c0_ 5 1 (List.map (Value.int .u8) ([] ++ p.data)) :: .row none 0 0 23 1 (List.flatMap SlC []) :: H) (⟨p.id, p.data, a0_, 0 + p.n, c0_⟩ : Pd)))) (H := .row a1 (0 + mn + 1) c1 25 2 (List.flatMap PdC (M ++ [(⟨p.id, p.data, a0_, 0 + p.n, c0_⟩ : Pd)])) :: .row a0_ (0 + p.n) c0_ 5 1 (List.map (Value.int .u8) ([] ++ p.data)) :: .row none 0 0 23 1 (List.flatMap SlC []) :: H))) ?_
           rintro _ _ ⟨D2, oa2, on2, oc2, os2, ma2, mn2, mc2, M2, age2, rfl, e, hon2, hmn2, hos2, hM2, hag2, hoq2, hly2, hRf2⟩; obtain rfl := e.symm
           have hlo2 := flush_on hon2 hos2
           refine RL.apR (enc := SlC) T _ (ys := os2) (fun a5_ c5_ => ?_)
           refine RL.p T ?_
           refine RL.nil _ _ _ _ ?_
           refine hK16 _ _ _ ?_
           refine SW.seq_k fun K18 hK18 => ?_
           refine SW.region _ _ _ _ ?_
           refine RL.p T ?_
           refine RL.p T ?_
           refine RL.p T ?_
           refine RL.nil _ _ _ _ ?_
           refine hK18 _ _ _ ?_
           refine SW.sat (fun hs => ?_)
           refine SW.ret ?_
           refine retQ.wk (.row a5_ (0 + on2) c5_ 23 1 (List.flatMap SlC ([] ++ os2)) :: .var bm 55 [.int .i64 ((room : Nat) : Int), .int .i64 ((wait : Nat) : Int), .int .i64 ((age2 : Nat) : Int), .slice ma2 mn2 mc2] :: ((D2 ++ (.row a1 (0 + mn + 1) c1 25 2 (List.flatMap PdC (M ++ [(⟨p.id, p.data, a0_, 0 + p.n, c0_⟩ : Pd)])) :: [.row a0_ (0 + p.n) c0_ 5 1 (List.map (Value.int .u8) ([] ++ p.data))])) ++ H)) ?_
           refine retQ.rr _ ?_ (hH := fun w hw => hw)
           clear hK18 K18 hK17 K17 hK16 K16 hK15 K15 hK14 K14 hK7 K7 hK6 K6 hK5 K5 hK3 K3 hK2 K2 hK1 K1 hK0 K0
           have hA := addNB (room := room) (ms := mg M) (m := mgP p) (by omega) (by omega)
           have hO : outD ([] ++ os2) = addO room (mg M) (mgP p) := by rw [hA.1, List.nil_append, hos2, mg_app]; rfl
           refine ⟨D2 ++ (.row a1 (0 + mn + 1) c1 25 2 (List.flatMap PdC (M ++ [(⟨p.id, p.data, a0_, 0 + p.n, c0_⟩ : Pd)])) :: [.row a0_ (0 + p.n) c0_ 5 1 (List.map (Value.int .u8) ([] ++ p.data))]), a5_, 0 + on2, c5_, [] ++ os2, ma2, mn2, mc2, M2, age2, rfl, rfl, by simp [hon2], hmn2, hO, by rw [hA.2, hM2], ?_, fun q hq => (hoq2 q (by simpa using hq)).sub SubL.by, mg_none hM2, fun G hG => SubL.rd (T := D2 ++ [.row a1 (0 + mn + 1) c1 25 2 (List.flatMap PdC (M ++ [(⟨p.id, p.data, a0_, 0 + p.n, c0_⟩ : Pd)]))]) SubL.by (hRf2 _ (Rd.rowh (satT (H0 := [.row a1 (0 + mn + 1) c1 25 2 (List.flatMap PdC (M ++ [(⟨p.id, p.data, a0_, 0 + p.n, c0_⟩ : Pd)]))]) hs) (At.head _ _)))⟩
           rw [hO, ageO_ne (by rw [hA.1]; simp [flushO])]
           rw [hag2, if_neg (by simp)]
           )
        ·skip
         first
          | (exfalso; first | omega | contradiction | (clear hK17 K17; clear hK16 K16; clear hK15 K15; clear hK14 K14; clear hK7 K7; clear hK6 K6; clear hK5 K5; clear hK3 K3; clear hK2 K2; clear hK1 K1; clear hK0 K0; simp at *; done))
          | (
           refine SW.skip ?_
           refine hK16 _ _ _ ?_
           refine SW.seq_k fun K19 hK19 => ?_
           refine SW.region _ _ _ _ ?_
           refine RL.p T ?_
           refine RL.p T ?_
           refine RL.p T ?_
           refine RL.nil _ _ _ _ ?_
           refine hK19 _ _ _ ?_
           refine SW.sat (fun hs => ?_)
           refine SW.ret ?_
           refine retQ.wk (.row none 0 0 23 1 (List.flatMap SlC []) :: .var bm 55 [.int .i64 ((room : Nat) : Int), .int .i64 ((wait : Nat) : Int), .int .i64 ((age : Nat) : Int), .slice a1 (0 + mn + 1) c1] :: ((.row a1 (0 + mn + 1) c1 25 2 (List.flatMap PdC (M ++ [(⟨p.id, p.data, a0_, 0 + p.n, c0_⟩ : Pd)])) :: [.row a0_ (0 + p.n) c0_ 5 1 (List.map (Value.int .u8) ([] ++ p.data))]) ++ H)) ?_
           refine retQ.rr _ ?_ (hH := fun w hw => hw)
           clear hK19 K19 hK17 K17 hK16 K16 hK15 K15 hK14 K14 hK7 K7 hK6 K6 hK5 K5 hK3 K3 hK2 K2 hK1 K1 hK0 K0
           have hA := addNn (room := room) (ms := mg M) (m := mgP p) (by omega)
           have hO : outD [] = addO room (mg M) (mgP p) := by rw [hA.1]; rfl
           refine ⟨.row a1 (0 + mn + 1) c1 25 2 (List.flatMap PdC (M ++ [(⟨p.id, p.data, a0_, 0 + p.n, c0_⟩ : Pd)])) :: [.row a0_ (0 + p.n) c0_ 5 1 (List.map (Value.int .u8) ([] ++ p.data))], none, 0, 0, [], a1, 0 + mn + 1, c1, M ++ [(⟨p.id, p.data, a0_, 0 + p.n, c0_⟩ : Pd)], age, rfl, rfl, rfl, by simp [hn], hO, by rw [hA.2, mg_app]; rfl, by rw [hO, hA.1]; rfl, by simp, fun y hy => (List.mem_append.1 hy).imp id fun hy => ?_, fun G hG => SubL.rd (T := [.row a1 (0 + mn + 1) c1 25 2 (List.flatMap PdC (M ++ [(⟨p.id, p.data, a0_, 0 + p.n, c0_⟩ : Pd)]))]) SubL.by (Rd.rowh (satT (H0 := [.row a1 (0 + mn + 1) c1 25 2 (List.flatMap PdC (M ++ [(⟨p.id, p.data, a0_, 0 + p.n, c0_⟩ : Pd)]))]) hs) (At.head _ _))⟩
           rw [List.mem_singleton.1 hy]
           exact PdOk.sub (T := [.row a0_ (0 + p.n) c0_ 5 1 (List.map (Value.int .u8) ([] ++ p.data))]) ⟨hp.id, (Nat.zero_add _).trans hp.len, Nat.le_trans (Nat.le_of_eq (Nat.zero_add p.n)) hp.max, hp.byte, Rd.rowh (satT (H0 := [.row a0_ (0 + p.n) c0_ 5 1 (List.map (Value.int .u8) ([] ++ p.data))]) hs) (At.head _ _)⟩ SubL.by
           )
       )
    )
theorem rtickV {w0 : World} {H : List Chunk} (bm room wait age : Nat) (ma : Option Addr) (mn mc : Nat) (M : List Pd) (hR : Rd w0 H ma mn mc 2 (M.flatMap PdC)) (hn : mn = M.length) (hu2 : usedM (mg M) ≤ 2048) (hok : ∀ y ∈ M, PdOk w0 H y) (ha : age < wait) (hw : wait ≤ 1000) : SC Try.prog w0 14 #[.pointer (some ⟨bm, 0, none⟩)] (.var bm 55 [.int .i64 ((room : Nat) : Int), .int .i64 ((wait : Nat) : Int), .int .i64 ((age : Nat) : Int), .slice ma mn mc] :: H) (fun v H' => ∃ D oa' on' oc' os' ma' mn' mc' M' age', v = .slice oa' on' oc' ∧ H' = .row oa' on' oc' 23 1 (List.flatMap SlC os') :: .var bm 55 [.int .i64 ((room : Nat) : Int), .int .i64 ((wait : Nat) : Int), .int .i64 ((age' : Nat) : Int), .slice ma' mn' mc'] :: (D ++ H) ∧ on' = os'.length ∧ mn' = M'.length ∧ outD os' = tickO wait (mg M) age ∧ mg M' = tickL wait (mg M) age ∧ age' = tickA wait (mg M) age ∧ (∀ q ∈ os', SlOk w0 D q) ∧ (∀ y ∈ M', y ∈ M ∨ PdOk w0 D y) ∧ (∀ G, Rd w0 G ma mn mc 2 (List.flatMap PdC M) → Rd w0 (D ++ G) ma' mn' mc' 2 (List.flatMap PdC M'))) := by
 refine SC.enter Try.func14 rfl (Nat.le_of_ble_eq_true rfl) ?_
 refine SW.seq_k fun K0 hK0 => ?_
 refine SW.nilrow 23 1 ?_
 have hm0 : mg M = [] ↔ mn = 0 := by rw [mg_nil, hn, List.length_eq_zero_iff]
 refine SW.region _ _ _ _ ?_
 refine RL.p T ?_
 refine RL.nil _ _ _ _ ?_
 refine hK0 _ _ _ ?_
 refine SW.seq_k fun K1 hK1 => ?_
 refine SW.seq_k fun K2 hK2 => ?_
 refine SW.region _ _ _ _ ?_
 refine RL.p T ?_
 refine RL.p T ?_
 refine RL.p T ?_
 first | refine RL.lv1 T ?_ | refine RL.le T ?_
 refine RL.p T ?_
 refine RL.p T ?_
 refine RL.nil _ _ _ _ ?_
 refine hK2 _ _ _ ?_
 refine SW.cs (fun hc0 => ?_) (fun hc0 => ?_)
 ·skip
  first
   | (exfalso; first | omega | contradiction | (clear hK2 K2; clear hK1 K1; clear hK0 K0; simp at *; done))
   | (
    refine SW.seq_k fun K3 hK3 => ?_
    refine SW.region _ _ _ _ ?_
    refine RL.p T ?_
    refine RL.nil _ _ _ _ ?_
    refine hK3 _ _ _ ?_
    refine SW.ret ?_
    refine retQ.wk (.row none 0 0 23 1 (List.flatMap SlC []) :: .var bm 55 [.int .i64 ((room : Nat) : Int), .int .i64 ((wait : Nat) : Int), .int .i64 ((age : Nat) : Int), .slice ma mn mc] :: ([] ++ H)) ?_
    refine retQ.rr _ ?_ (hH := fun w hw => hw)
    clear hK3 K3 hK2 K2 hK1 K1 hK0 K0
    have h0 : mg M = [] := hm0.2 (by omega)
    exact ⟨[], none, 0, 0, [], ma, mn, mc, M, age, rfl, rfl, rfl, hn, by rw [tickO, if_pos h0]; rfl, by rw [tickL, if_pos h0], by rw [tickA, if_pos h0], by simp, fun y hy => .inl hy, fun G h => h⟩
    )
 ·skip
  first
   | (exfalso; first | omega | contradiction | (clear hK2 K2; clear hK1 K1; clear hK0 K0; simp at *; done))
   | (
    refine SW.skip ?_
    refine hK1 _ _ _ ?_
    refine SW.seq_k fun K4 hK4 => ?_
    refine SW.region _ _ _ _ ?_
    refine RL.p T ?_
    refine RL.p T ?_
    refine RL.p T ?_
    first | refine RL.lv1 T ?_ | refine RL.le T ?_
    first | refine RL.ar ?_ | refine RL.p T ?_
    rw [show ((age : Nat) : Int) + 1 = ((age + 1 : Nat) : Int) from rfl]
    refine RL.p T ?_
    refine RL.p T ?_
    refine RL.s ?_
    first
      | refine NV.store_var1 T rfl rfl rfl rfl (by conv => lhs; whnf) rfl (by repeat first | exact At.head _ _ | assumption | exact At.put (by assumption) _ | apply At.tail | apply At.app) rfl rfl ?_
      | refine NV.store_var T rfl rfl rfl (by exact (rfl : _ = [_])) rfl rfl (by repeat first | exact At.head _ _ | assumption | exact At.put (by assumption) _ | apply At.tail | apply At.app) (Nat.le_of_ble_eq_true rfl) rfl ?_
      | refine NV.store_elem T rfl rfl rfl rfl (by conv => lhs; whnf) rfl (by repeat first | exact At.head _ _ | assumption | exact At.put (by assumption) _ | apply At.tail | apply At.app) (by omega) ?_
    refine RL.nil _ _ _ _ ?_
    refine hK4 _ _ _ ?_
    refine SW.seq_k fun K5 hK5 => ?_
    refine SW.seq_k fun K6 hK6 => ?_
    refine SW.drawQ [(16, 0), (17, 1), (18, 2), (19, 3), (20, 4), (21, 5), (22, 6), (23, 7), (24, 8)] [[], [0], [1, 0], [2, 1, 0], [], [4], [5, 4], [6, 5, 4], [3, 2, 1, 0, 7, 6, 5, 4]] mixed (by kernel_rfl) (by kernel_rfl) ?_
    refine QL.p T ?_
    refine QL.p T ?_
    refine QL.p T ?_
    first | refine QL.lv1 T ?_ | refine QL.le T ?_
    refine QL.p T ?_
    refine QL.p T ?_
    refine QL.p T ?_
    first | refine QL.lv1 T ?_ | refine QL.le T ?_
    refine QL.p T ?_
    refine QL.nil ?_
    refine hK6 _ _ _ ?_
    refine SW.cs (fun hc1 => ?_) (fun hc1 => ?_)
    ·skip
     first
      | (exfalso; first | omega | contradiction | (clear hK6 K6; clear hK5 K5; clear hK4 K4; clear hK2 K2; clear hK1 K1; clear hK0 K0; simp at *; done))
      | (
       refine SW.seq_k fun K7 hK7 => ?_
       refine SW.region _ _ _ _ ?_
       refine RL.p T ?_
       refine RL.nil _ _ _ _ ?_
       refine hK7 _ _ _ ?_
       refine SW.ret ?_
       refine retQ.wk (.row none 0 0 23 1 (List.flatMap SlC []) :: .var bm 55 [.int .i64 ((room : Nat) : Int), .int .i64 ((wait : Nat) : Int), .int .i64 (((age + 1) : Nat) : Int), .slice ma mn mc] :: ([] ++ H)) ?_
       refine retQ.rr _ ?_ (hH := fun w hw => hw)
       clear hK7 K7 hK6 K6 hK5 K5 hK4 K4 hK2 K2 hK1 K1 hK0 K0
       have h0 : ¬ mg M = [] := fun e => by have := hm0.1 e; omega
       exact ⟨[], none, 0, 0, [], ma, mn, mc, M, age + 1, rfl, rfl, rfl, hn, by rw [tickO, if_neg h0, if_pos (by omega)]; rfl, by rw [tickL, if_neg h0, if_pos (by omega)], by rw [tickA, if_neg h0, if_pos (by omega)], by simp, fun y hy => .inl hy, fun G h => h⟩
       )
    ·skip
     first
      | (exfalso; first | omega | contradiction | (clear hK6 K6; clear hK5 K5; clear hK4 K4; clear hK2 K2; clear hK1 K1; clear hK0 K0; simp at *; done))
      | (
       refine SW.skip ?_
       refine hK5 _ _ _ ?_
       refine SW.seq_k fun K8 hK8 => ?_
       refine SW.region _ _ _ _ ?_
       refine RL.p T ?_
       refine RL.c fun16 (fun hs => SC.wk (rflushV bm room wait (age + 1) ma mn mc M hR hn hu2 hok (H := H))) ?_
       rintro _ _ ⟨D1, oa1, on1, oc1, os1, ma1, mn1, mc1, M1, age1, rfl, e, hon1, hmn1, hos1, hM1, hag1, hoq1, hly1, hRf1⟩; obtain rfl := e.symm
       refine RL.p T ?_
       refine RL.nil _ _ _ _ ?_
       refine hK8 _ _ _ ?_
       refine SW.ret ?_
       refine retQ.wk (.row oa1 on1 oc1 23 1 (List.flatMap SlC os1) :: .var bm 55 [.int .i64 ((room : Nat) : Int), .int .i64 ((wait : Nat) : Int), .int .i64 ((age1 : Nat) : Int), .slice ma1 mn1 mc1] :: (D1 ++ H)) ?_
       refine retQ.rr _ ?_ (hH := fun w hw => hw)
       clear hK8 K8 hK6 K6 hK5 K5 hK4 K4 hK2 K2 hK1 K1 hK0 K0
       have h0 : ¬ mg M = [] := fun e => by have := hm0.1 e; omega
       exact ⟨D1, oa1, on1, oc1, os1, ma1, mn1, mc1, M1, age1, rfl, rfl, hon1, hmn1, by rw [tickO, if_neg h0, if_neg (by omega), hos1, flushO, if_neg h0], by rw [tickL, if_neg h0, if_neg (by omega), hM1], by rw [tickA, if_neg h0, if_neg (by omega), hag1, if_neg (fun e => h0 (mg_nil.2 e))], hoq1, hly1, hRf1⟩
       )
    )
end Go.Proofs.Ytlgdfoniijmlbaa.M
