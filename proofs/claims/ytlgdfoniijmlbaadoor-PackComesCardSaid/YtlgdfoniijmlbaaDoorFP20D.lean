import Derived.Test.YtlgdfoniijmlbaaDoorProg
import Derived.Test.YtlgdfoniijmlbaaDoorFL20D
import Derived.Test.YtlgdfoniijmlbaaDoorP20d
set_option linter.unusedVariables false
set_option linter.unusedSimpArgs false
namespace Go.Proofs.YtlgdfoniijmlbaaDoor.M
open Go Go.Sep Go.Proofs
set_option maxRecDepth 10000
set_option maxHeartbeats 2000000
theorem great {w0 : World} {H : List Chunk} (ls : List Ac) (sr : Option Addr) (nr cr : Nat) (hB : ∀ H, Rd w0 H sr nr cr 4 (ls.flatMap AcQ)) (hnr : nr = ls.length) (hmr : nr ≤ 4398046511000) (hls : ∀ H, ∀ y ∈ ls, AcOk w0 H y) : SC Tryd.prog w0 17 #[.slice sr nr cr] H (fun v H' => ∃ t, v = .bool t ∧ (t = false → nr ≤ 200) ∧ H' = H) := by
 refine SC.enter Tryd.func17 rfl (Nat.le_of_ble_eq_true rfl) ?_
 refine SW.seq_k fun K0 hK0 => ?_
 refine SW.region _ _ _ _ ?_
 refine RL.p T ?_
 refine RL.nil _ _ _ _ ?_
 refine hK0 _ _ _ ?_
 refine SW.seq_k fun K1 hK1 => ?_
 refine SW.region _ _ _ _ ?_
 refine RL.p T ?_
 refine RL.nil _ _ _ _ ?_
 refine hK1 _ _ _ ?_
 refine SW.seq_k fun K2 hK2 => ?_
 refine SW.seq_k fun K3 hK3 => ?_
 refine SW.region _ _ _ _ ?_
 refine RL.p T ?_
 refine RL.p T ?_
 refine RL.p T ?_
 refine RL.nil _ _ _ _ ?_
 refine hK3 _ _ _ ?_
 refine SW.block ?_
 refine SW.loopM (fun frB mm fr ds HH => ∃ (k : Nat) (s : Int), mm = nr - k ∧ (k ≤ nr) ∧ FrIs [3, 5, 8, 9, 10, 11, 12, 13, 14, 15, 16, 17, 18, 19, 20, 21, 22] frB fr [(3, .int .i64 s), (8, .int .i64 k)] ∧ ds = [] ∧ HH = H) (n := nr - 0) ?_ ?_
 ·exact ⟨0, 0, rfl, Nat.zero_le _, (.cons rfl (.consI rfl (by first | omega | rfl) (.nil (by repeat first | with_reducible exact Mx.refl | with_reducible exact Mx.mix | refine Mx.put rfl ?_ | refine Mx.upd rfl ?_ | refine Mx.updl rfl ?_ | refine Mx.fin rfl ?_ | refine Mx.inner rfl ?_ | refine Mx.none ?_ | exact Mx.refl | exact Mx.mix)))), rfl, rfl⟩
 ·rintro mm fr ds HH ⟨k, s, rfl, hk, hFr, rfl, eHH⟩
  obtain rfl := eHH.symm
  obtain ⟨frU, rfl⟩ := hFr.eq
  clear hFr
  have hq := (ac_mem (hls H) k).p.max
  refine SW.seq_k fun K4 hK4 => ?_
  refine SW.region _ _ _ _ ?_
  refine RL.p T ?_
  refine RL.nil _ _ _ _ ?_
  refine hK4 _ _ _ ?_
  refine SW.seq_k fun K5 hK5 => ?_
  refine SW.cs (fun hc0 => ?_) (fun hc0 => ?_)
  ·skip
   first
    | (exfalso; first | omega | contradiction | (clear hK5 K5; clear hK4 K4; clear hK3 K3; clear hK2 K2; clear hK1 K1; clear hK0 K0; simp at *; done))
    | (
     refine SW.skip ?_
     refine hK5 _ _ _ ?_
     refine SW.seq_k fun K6 hK6 => ?_
     refine SW.block ?_
     refine SW.seq_k fun K7 hK7 => ?_
     refine SW.region _ _ _ _ ?_
     refine RL.ix T ?_ (hR := fun hs => (hB _))
     refine RL.leN T ?_ (hR := fun hs => (hB _)) (hvs := (by exact (rfl : _ = [_, _, _, _])))
     refine RL.s ?_
     refine NV.alloc T rfl rfl rfl (by exact (rfl : _ = [_, _, _, _])) ?_
     intro b5_0
     refine RL.s ?_
     refine NV.sN T rfl rfl rfl (by exact (rfl : _ = [_, _, _, _])) (by exact (rfl : _ = [_, _, _, _])) ?_
     refine RL.nil _ _ _ _ ?_
     refine hK7 _ _ _ ?_
     refine SW.region _ _ _ _ ?_
     refine RL.p T ?_
     refine RL.p T ?_
     refine RL.p T ?_
     refine RL.lv1 T ?_
     refine RL.p T ?_
     refine RL.p T ?_
     refine RL.lv1 T ?_
     first | refine RL.cv T ?_ | refine RL.p T ?_ | refine RL.ts T ?_
     first | refine RL.ar ?_ | refine RL.p T ?_
     refine RL.p T ?_
     refine RL.p T ?_
     refine RL.nil _ _ _ _ ?_
     refine hK6 _ _ _ ?_
     refine SW.drop ?_
     refine SW.region _ _ _ _ ?_
     first | refine RL.ar ?_ | refine RL.p T ?_
     refine RL.p T ?_
     refine RL.nil _ _ _ _ ?_
     exact ⟨nr - (k + 1), (by omega), k + 1, _, (by rfl), (by omega), (.cons rfl (.consI rfl (by first | omega | rfl) (.nil (by repeat first | with_reducible exact Mx.refl | with_reducible exact Mx.mix | refine Mx.put rfl ?_ | refine Mx.upd rfl ?_ | refine Mx.updl rfl ?_ | refine Mx.fin rfl ?_ | refine Mx.inner rfl ?_ | refine Mx.none ?_ | exact Mx.refl | exact Mx.mix)))), rfl, rfl⟩
     )
  ·skip
   first
    | (exfalso; first | omega | contradiction | (clear hK5 K5; clear hK4 K4; clear hK3 K3; clear hK2 K2; clear hK1 K1; clear hK0 K0; simp at *; done))
    | (
     refine SW.exit ?_
     refine hK2 _ _ _ ?_
     refine SW.seq_k fun K8 hK8 => ?_
     refine SW.region _ _ _ _ ?_
     refine RL.p T ?_
     refine RL.p T ?_
     refine RL.p T ?_
     refine RL.p T ?_
     refine RL.sp 26 (fun hs0 => ?_) (fun hs0 => ?_)
     ·skip
      first
       | (exfalso; first | omega | contradiction | (clear hK8 K8; clear hK5 K5; clear hK4 K4; clear hK3 K3; clear hK2 K2; clear hK1 K1; clear hK0 K0; simp at *; done))
       | (
        refine RL.guard_no rfl rfl rfl ?_
        refine RL.guard_no rfl rfl rfl ?_
        refine RL.p T ?_
        refine RL.p T ?_
        refine RL.nil _ _ _ _ ?_
        refine hK8 _ _ _ ?_
        refine SW.ret ?_
        refine retQ.rr (H) ?_
        clear hK8 K8 hK5 K5 hK4 K4 hK3 K3 hK2 K2 hK1 K1 hK0 K0
        first
          | exact ⟨_, rfl, (fun h => by cases h), rfl⟩
          | exact ⟨_, rfl, (fun h => by simp at h; omega), rfl⟩
        )
     ·skip
      first
       | (exfalso; first | omega | contradiction | (clear hK8 K8; clear hK5 K5; clear hK4 K4; clear hK3 K3; clear hK2 K2; clear hK1 K1; clear hK0 K0; simp at *; done))
       | (
        refine RL.p T ?_
        refine RL.p T ?_
        refine RL.p T ?_
        refine RL.p T ?_
        refine RL.nil _ _ _ _ ?_
        refine hK8 _ _ _ ?_
        refine SW.ret ?_
        refine retQ.rr (H) ?_
        clear hK8 K8 hK5 K5 hK4 K4 hK3 K3 hK2 K2 hK1 K1 hK0 K0
        first
          | exact ⟨_, rfl, (fun h => by cases h), rfl⟩
          | exact ⟨_, rfl, (fun h => by simp at h; omega), rfl⟩
        )
     )
theorem takeC {w0 : World} {H : List Chunk} (bo br bu room : Nat) (oa : Option Addr) (on oc : Nat) (os : List Sl) (hR : Rd w0 H oa on oc 1 (List.flatMap SlC os)) (hon : on = os.length) (hoq : ∀ q ∈ os, SlOk w0 H q) (Cs : List (List Mg)) (hO : outD os = Cs.map joinB) (hA : AllOk room Cs) (hr2 : room ≤ 2048) (u0 : Option Addr) (n0 c0 : Nat) (uu0 : List Pd) (hn0 : n0 = uu0.length) (hb : n0 + 256 * on ≤ 4000000000) : SC Tryd.prog w0 18 #[.slice oa on oc, .pointer (some ⟨bo, 0, none⟩), .pointer (some ⟨br, 0, none⟩), .pointer (some ⟨bu, 0, none⟩)] (.var bo 4 [.bool true] :: .var br 3 [.int .i64 ((room : Nat) : Int)] :: .var bu 22 [.slice u0 n0 c0] :: .row u0 n0 c0 32 2 (List.flatMap PdC (uu0)) :: H) (fun v H' => ∃ D ua un uc uu, H' = .var bo 4 [.bool true] :: .var br 3 [.int .i64 ((room : Nat) : Int)] :: .var bu 22 [.slice ua un uc] :: .row ua un uc 32 2 (List.flatMap PdC (uu)) :: (D ++ H) ∧ un = uu.length ∧ mg uu = mg uu0 ++ Cs.flatten ∧ (∀ y ∈ uu, y ∈ uu0 ∨ PdOk w0 D y)) := by
 refine SC.enter Tryd.func18 rfl (Nat.le_of_ble_eq_true rfl) ?_
 refine SW.seq_k fun K0 hK0 => ?_
 have hOl := congrArg List.length hO
 rw [outD_len, List.length_map] at hOl
 refine SW.region _ _ _ _ ?_
 refine RL.p T ?_
 refine RL.p T ?_
 refine RL.p T ?_
 refine RL.nil _ _ _ _ ?_
 refine hK0 _ _ _ ?_
 refine SW.block ?_
 refine SW.loopM (fun frB mm fr ds HH => ∃ (k : Nat) (ua : Option Addr) (un uc : Nat) (uu : List Pd) (D : List Chunk), mm = on - k ∧ (k ≤ on ∧ un = uu.length ∧ un ≤ n0 + 256 * k ∧ mg uu = mg uu0 ++ (Cs.take k).flatten ∧ (∀ y ∈ uu, y ∈ uu0 ∨ PdOk w0 D y)) ∧ FrIs [6, 7, 8, 11, 12, 13, 14, 15, 16, 17, 18, 19, 20, 21, 22, 23, 24, 25, 26, 27, 28, 29, 30, 31, 32, 33, 34, 35] frB fr [(11, .int .i64 k)] ∧ ds = [] ∧ HH = (.var bo 4 [.bool true] :: .var br 3 [.int .i64 ((room : Nat) : Int)] :: .var bu 22 [.slice ua un uc] :: .row ua un uc 32 2 (List.flatMap PdC (uu)) :: (D ++ H))) (n := on - 0) ?_ ?_
 ·exact ⟨0, u0, n0, c0, uu0, [], rfl, ⟨Nat.zero_le _, hn0, by omega, by simp, fun y hy => .inl hy⟩, (.consI rfl (by first | omega | rfl) (.nil (by repeat first | with_reducible exact Mx.refl | with_reducible exact Mx.mix | refine Mx.put rfl ?_ | refine Mx.upd rfl ?_ | refine Mx.updl rfl ?_ | refine Mx.fin rfl ?_ | refine Mx.inner rfl ?_ | refine Mx.none ?_ | exact Mx.refl | exact Mx.mix))), rfl, rfl⟩
 ·rintro mm fr ds HH ⟨k, ua, un, uc, uu, D, rfl, ⟨hk, hun, hub, hmg, hyo⟩, hFr, rfl, eHH⟩
  obtain rfl := eHH.symm
  obtain ⟨frU, rfl⟩ := hFr.eq
  clear hFr
  have hq := sl_mem hoq k
  refine SW.seq_k fun K1 hK1 => ?_
  refine SW.region _ _ _ _ ?_
  refine RL.p T ?_
  refine RL.nil _ _ _ _ ?_
  refine hK1 _ _ _ ?_
  refine SW.seq_k fun K2 hK2 => ?_
  refine SW.cs (fun hc0 => ?_) (fun hc0 => ?_)
  ·skip
   first
    | (exfalso; first | omega | contradiction | (clear hK2 K2; clear hK1 K1; clear hK0 K0; simp at *; done))
    | (
     refine SW.skip ?_
     refine hK2 _ _ _ ?_
     refine SW.seq_k fun K3 hK3 => ?_
     refine SW.block ?_
     refine SW.seq_k fun K4 hK4 => ?_
     refine SW.region _ _ _ _ ?_
     refine RL.ix T ?_ (hR := fun hs => (by repeat first | exact hR | apply Rd.cons | apply Rd.app))
     refine RL.le T ?_ (hR := fun hs => (by repeat first | exact hR | apply Rd.cons | apply Rd.app)) (hv := (slc_get (by omega)))
     refine RL.p T ?_
     refine RL.nil _ _ _ _ ?_
     refine hK4 _ _ _ ?_
     refine SW.seq_k fun K5 hK5 => ?_
     have hg := out_get hO (k := k) (by omega)
     have hok := hA.get hg.1
     have hjl := joinB_len (Cs.getD k [])
     have hqn := hq.len
     rw [hg.2, hjl] at hqn
     refine SW.region _ _ _ _ ?_
     refine RL.p T ?_
     refine RL.c fun11 (fun hs => splitT (os.getD k default) (hq.sub SubL.by) (Cs.getD k []) hg.2 hok.1 hok.2.1 (by omega)) ?_
     rintro _ _ ⟨D6, a7, c7, ps, rfl, e, hps, hpo⟩; obtain rfl := e.symm
     have hpl := mg_le hps (by omega)
     refine RL.p T ?_
     refine RL.p T ?_
     refine RL.p T ?_
     refine RL.p T ?_
     refine RL.p T ?_
     refine RL.nil _ _ _ _ ?_
     refine hK5 _ _ _ ?_
     refine SW.seq_k fun K6 hK6 => ?_
     refine SW.region _ _ _ _ ?_
     first | refine RL.lv1 T ?_ | refine RL.le T ?_ (hR := fun hs => (by repeat first | exact hR | apply Rd.cons | apply Rd.app)) (hv := (slc_get (by omega)))
     refine RL.p T ?_
     refine RL.p T ?_
     refine RL.p T ?_
     refine RL.p T ?_
     refine RL.p T ?_
     refine RL.p T ?_
     refine RL.p T ?_
     first | refine RL.lv1 T ?_ | refine RL.le T ?_ (hR := fun hs => (by repeat first | exact hR | apply Rd.cons | apply Rd.app)) (hv := (slc_get (by omega)))
     refine RL.p T ?_
     rw [show decide (((os.getD k default).n : Int) ≤ ((room : Nat) : Int)) = true from decide_eq_true (by omega)]
     refine RL.p T ?_
     refine RL.s ?_
     first
       | refine NV.store_var1 T rfl rfl rfl rfl (by conv => lhs; whnf) rfl (by repeat first | exact At.head _ _ | assumption | exact At.put (by assumption) _ | apply At.tail | apply At.app) rfl rfl ?_
       | refine NV.store_var T rfl rfl rfl (by exact (rfl : _ = [_])) rfl rfl (by repeat first | exact At.head _ _ | assumption | exact At.put (by assumption) _ | apply At.tail | apply At.app) (Nat.le_of_ble_eq_true rfl) rfl ?_
       | refine NV.store_elem T rfl rfl rfl rfl (by conv => lhs; whnf) rfl (by repeat first | exact At.head _ _ | assumption | exact At.put (by assumption) _ | apply At.tail | apply At.app) (by omega) ?_
     refine RL.nil _ _ _ _ ?_
     refine hK6 _ _ _ ?_
     refine SW.draw [(31, 0), (32, 1), (33, 2), (34, 3)] [[], [], [1], [0, 2, 1], [3, 0, 2, 1]] mixed (by kernel_rfl) (by kernel_rfl) ?_
     refine RD.q rfl rfl (Gd.none rfl) (by first | exact QV.load_var1 T rfl rfl rfl rfl (by repeat first | exact At.head _ _ | assumption | exact At.put (by assumption) _ | apply At.tail | apply At.app) rfl | exact QV.load_varN T rfl rfl rfl rfl rfl (by repeat first | exact At.head _ _ | assumption | exact At.put (by assumption) _ | apply At.tail | apply At.app) (by exact (rfl : _ = [_])) rfl | exact QV.load_elem T rfl rfl rfl rfl (by repeat first | exact hR | apply Rd.cons | apply Rd.app) (slc_get (by omega))) ?_
     refine RD.p T ?_
     refine RD.nv rfl rfl rfl (Gd.none rfl) ?_
     refine NV.sat (fun hs => ?_) (fun c hc => by cases hc)
     refine NV.call rfl rfl rfl fun15 rfl rfl (pfrom ps a7 ps.length c7 (Rd.rowh hs (by repeat first | exact At.head _ _ | apply At.tail | apply At.app)) rfl (by omega) (fun k => (pd_mem hpo k).sub SubL.by)) ?_
     rintro _ _ ⟨a8, c8, rfl, e⟩; obtain rfl := e.symm
     refine ⟨(Stab.cons rfl (Gd.none rfl) (by first | exact QV.load_var1 T rfl rfl rfl rfl (by repeat first | exact At.head _ _ | assumption | exact At.put (by assumption) _ | apply At.tail | apply At.app) rfl | exact QV.load_varN T rfl rfl rfl rfl rfl (by repeat first | exact At.head _ _ | assumption | exact At.put (by assumption) _ | apply At.tail | apply At.app) rfl rfl | exact QV.load_elem T rfl rfl rfl rfl (by repeat first | exact hR | apply Rd.cons | apply Rd.app) (slc_get (by omega))) Stab.nil), ?_⟩
     refine RD.nv rfl rfl rfl (Gd.none rfl) ?_
     refine NV.apR (enc := PdC) T uu (ys := ps) (fun a9 c9 => ?_)
     refine ⟨Stab.nil, ?_⟩
     refine RD.nv rfl rfl rfl (Gd.none rfl) ?_
     first
       | refine NV.store_var1 T rfl rfl rfl rfl (by conv => lhs; whnf) rfl (by repeat first | exact At.head _ _ | assumption | exact At.put (by assumption) _ | apply At.tail | apply At.app) rfl rfl ?_
       | refine NV.store_var T rfl rfl rfl (by exact (rfl : _ = [_])) rfl rfl (by repeat first | exact At.head _ _ | assumption | exact At.put (by assumption) _ | apply At.tail | apply At.app) (Nat.le_of_ble_eq_true rfl) rfl ?_
       | refine NV.store_elem T rfl rfl rfl rfl (by conv => lhs; whnf) rfl (by repeat first | exact At.head _ _ | assumption | exact At.put (by assumption) _ | apply At.tail | apply At.app) (by omega) ?_
     refine ⟨Stab.nil, ?_⟩
     refine RD.k rfl rfl ?_
     refine hK3 _ _ _ ?_
     refine SW.wk (.var bo 4 [.bool true] :: .var br 3 [.int .i64 ((room : Nat) : Int)] :: .var bu 22 [.slice a9 (un + ps.length) c9] :: .row a9 (un + ps.length) c9 32 2 (List.flatMap PdC (uu ++ ps)) :: ((D6 ++ D) ++ H)) ?_
     refine SW.region _ _ _ _ ?_
     first | refine RL.ar ?_ | refine RL.p T ?_
     refine RL.p T ?_
     refine RL.nil _ _ _ _ ?_
     exact ⟨on - (k + 1), (by omega), k + 1, a9, un + ps.length, c9, uu ++ ps, D6 ++ D, (by rfl), ⟨by omega, by simp [hun], by omega, by rw [mg_app, hmg, hps, grp_take (by omega), List.append_assoc], fun y hy => (List.mem_append.1 hy).elim (fun m => (hyo y m).imp id (fun g => g.app)) (fun m => .inr ((hpo y m).sub SubL.by))⟩, (.consI rfl (by first | omega | rfl) (.nil (by repeat first | with_reducible exact Mx.refl | with_reducible exact Mx.mix | refine Mx.put rfl ?_ | refine Mx.upd rfl ?_ | refine Mx.updl rfl ?_ | refine Mx.fin rfl ?_ | refine Mx.inner rfl ?_ | refine Mx.none ?_ | exact Mx.refl | exact Mx.mix))), rfl, rfl⟩
     )
  ·skip
   first
    | (exfalso; first | omega | contradiction | (clear hK2 K2; clear hK1 K1; clear hK0 K0; simp at *; done))
    | (
     refine SW.exit ?_
     try simp only [thenQ, blockQ, Nat.beq_refl, cond_true]
     refine retQ.wk ((.var bo 4 [.bool true] :: .var br 3 [.int .i64 ((room : Nat) : Int)] :: .var bu 22 [.slice ua un uc] :: .row ua un uc 32 2 (List.flatMap PdC (uu)) :: (D ++ H))) ?_
     refine retQ.nn _ ?_ (hH := fun w hw => hw)
     clear hK2 K2 hK1 K1 hK0 K0
     obtain rfl : k = on := by omega
     exact ⟨D, ua, un, uc, uu, rfl, hun, by rw [hmg, List.take_of_length_le (by omega)], hyo⟩
     )
end Go.Proofs.YtlgdfoniijmlbaaDoor.M
