import Derived.Test.YthigfghfpmpiiaaDoorProg
import Derived.Test.YthigfghfpmpiiaaDoorFG19D
import Derived.Test.YthigfghfpmpiiaaDoorS26
import Derived.Test.YthigfghfpmpiiaaDoorP19f
set_option linter.unusedVariables false
set_option linter.unusedSimpArgs false
namespace Go.Proofs.YthigfghfpmpiiaaDoor.M
open Go Go.Sep Go.Proofs
set_option maxRecDepth 10000
set_option maxHeartbeats 2000000
theorem rfind {w0 : World} {H : List Chunk} (sa : Option Addr) (n c : Nat) (es : List Int) (hR : Rd w0 H sa n c 1 (es.map (.int .u8))) (hn : n = es.length) (hm : n ≤ 140737488351232) (hB : Byte es) (id : Int) : SC Tryd.prog w0 19 #[.slice sa n c, .int .u32 id] H (fun v H' => ∃ D a on oc os, v = .tuple #[.slice a on oc, .int .i64 (splitV es).2] ∧ H' = .row a on oc 23 1 (List.flatMap SlC os) :: (D ++ H) ∧ on = os.length ∧ on ≤ 4000 ∧ outD os = findM (splitV es).1 id ∧ (∀ q ∈ os, SlOk w0 D q)) := by
 refine SC.enter Tryd.func19 rfl (Nat.le_of_ble_eq_true rfl) ?_
 refine SW.seq_k fun K0 hK0 => ?_
 refine SW.region _ _ _ _ ?_
 refine RL.p T ?_
 refine RL.p T ?_
 refine RL.nil _ _ _ _ ?_
 refine hK0 _ _ _ ?_
 refine SW.seq_k fun K1 hK1 => ?_
 refine SW.region _ _ _ _ ?_
 refine RL.p T ?_
 refine RL.c fun17 (fun hs => rsplit sa n c es (by repeat first | exact hR | apply Rd.cons) hn hm hB) ?_
 rintro _ _ ⟨D5, a5, c5, ps, rfl, e, hps, hpo⟩; obtain rfl := e.symm
 have hpl : ps.length ≤ 256 := by
   by_cases he0 : (splitV es).2 = 0
   · exact mg_le2 hps (split_joined hB he0).2.2.1
   · have := split_err he0; rw [← hps, mg_nil] at this; rw [this]; simp
 refine RL.p T ?_
 refine RL.p T ?_
 refine RL.p T ?_
 refine RL.p T ?_
 refine RL.p T ?_
 refine RL.nil _ _ _ _ ?_
 refine hK1 _ _ _ ?_
 refine SW.seq_k fun K2 hK2 => ?_
 refine SW.region _ _ _ _ ?_
 refine RL.nilrow 23 1 ?_
 refine RL.p T ?_
 refine RL.nil _ _ _ _ ?_
 refine hK2 _ _ _ ?_
 refine SW.seq_k fun K3 hK3 => ?_
 refine SW.seq_k fun K4 hK4 => ?_
 refine SW.wk (.row none 0 0 23 1 (List.flatMap SlC ([])) :: .row a5 ps.length c5 35 2 (List.flatMap PdC ps) :: (D5 ++ H)) ?_
 refine SW.region _ _ _ _ ?_
 refine RL.p T ?_
 refine RL.p T ?_
 refine RL.p T ?_
 refine RL.nil _ _ _ _ ?_
 refine hK4 _ _ _ ?_
 refine SW.block ?_
 refine SW.loopM (fun frB mm fr ds HH => ∃ (k : Nat) (a : Option Addr) (on oc : Nat) (os : List Sl), mm = ps.length - k ∧ (k ≤ ps.length ∧ (on = os.length ∧ on ≤ k ∧ outD os = findM (mg (ps.take k)) id ∧ (∀ q ∈ os, SlOk w0 D5 q))) ∧ FrIs [8, 10, 18, 19, 20, 21, 22, 23, 24, 25, 26, 27, 28, 29, 30, 31] frB fr [(18, .int .i64 k), (8, .slice a on oc)] ∧ ds = [] ∧ HH = (.row a on oc 23 1 (List.flatMap SlC (os)) :: .row a5 ps.length c5 35 2 (List.flatMap PdC ps) :: (D5 ++ H))) (n := ps.length - 0) ?_ ?_
 ·exact ⟨0, none, 0, 0, [], rfl, ⟨Nat.zero_le _, ⟨rfl, Nat.le_refl _, rfl, by simp⟩⟩, (.cons rfl (.cons rfl (.nil (by repeat first | with_reducible exact Mx.refl | with_reducible exact Mx.mix | refine Mx.put rfl ?_ | refine Mx.upd rfl ?_ | refine Mx.updl rfl ?_ | refine Mx.fin rfl ?_ | refine Mx.inner rfl ?_ | refine Mx.none ?_ | exact Mx.refl | exact Mx.mix)))), rfl, rfl⟩
 ·rintro mm fr ds HH ⟨k, a, on, oc, os, rfl, ⟨hk, ⟨hon, hok, hos, hoq⟩⟩, hFr, rfl, eHH⟩
  obtain rfl := eHH.symm
  obtain ⟨frU, rfl⟩ := hFr.eq
  clear hFr
  have hx := pd_mem hpo k
  refine SW.seq_k fun K5 hK5 => ?_
  refine SW.region _ _ _ _ ?_
  refine RL.p T ?_
  refine RL.nil _ _ _ _ ?_
  refine hK5 _ _ _ ?_
  refine SW.seq_k fun K6 hK6 => ?_
  refine SW.cs (fun hc0 => ?_) (fun hc0 => ?_)
  ·skip
   first
    | (exfalso; first | omega | contradiction | (clear hK6 K6; clear hK5 K5; clear hK4 K4; clear hK3 K3; clear hK2 K2; clear hK1 K1; clear hK0 K0; simp at *; done))
    | (
     refine SW.skip ?_
     refine hK6 _ _ _ ?_
     refine SW.seq_k fun K7 hK7 => ?_
     refine SW.block ?_
     refine SW.seq_k fun K8 hK8 => ?_
     refine SW.region _ _ _ _ ?_
     refine RL.ix T ?_ (hR := fun hs => (Rd.rowh hs (by repeat first | exact At.head _ _ | apply At.tail | apply At.app)))
     refine RL.leN T ?_ (hR := fun hs => (Rd.rowh hs (by repeat first | exact At.head _ _ | apply At.tail | apply At.app))) (hvs := (by exact (rfl : _ = [_, _])))
     refine RL.s ?_
     refine NV.alloc T rfl rfl rfl (by exact (rfl : _ = [_, _])) ?_
     intro b10_0
     refine RL.s ?_
     refine NV.sN T rfl rfl rfl (by exact (rfl : _ = [_, _])) (by exact (rfl : _ = [_, _])) ?_
     skip
     refine RL.nil _ _ _ _ ?_
     refine hK8 _ _ _ ?_
     refine SW.seq_k fun K9 hK9 => ?_
     refine SW.region _ _ _ _ ?_
     refine RL.p T ?_
     refine RL.lv1 T ?_
     refine RL.p T ?_
     refine RL.p T ?_
     refine RL.nil _ _ _ _ ?_
     refine hK9 _ _ _ ?_
     refine SW.cs (fun hc1 => ?_) (fun hc1 => ?_)
     ·skip
      first
       | (exfalso; first | omega | contradiction | (clear hK9 K9; clear hK8 K8; clear hK7 K7; clear hK6 K6; clear hK5 K5; clear hK4 K4; clear hK3 K3; clear hK2 K2; clear hK1 K1; clear hK0 K0; simp at *; done))
       | (
        refine SW.region _ _ _ _ ?_
        refine RL.p T ?_
        refine RL.p T ?_
        refine RL.lv1 T ?_
        refine RL.bs T rfl rfl rfl (by exact (rfl : _ = some [_])) (fun b29_1 => ?_)
        refine RL.apS T ([slP (ps.getD k default)]) (fun a0_ c0_ => ?_)
        refine RL.p T ?_
        refine RL.nil _ _ _ _ ?_
        refine hK7 _ _ _ ?_
        refine SW.drop ?_
        refine SW.region _ _ _ _ ?_
        first | refine RL.ar ?_ | refine RL.p T ?_
        refine RL.p T ?_
        refine RL.nil _ _ _ _ ?_
        first
          | exact ⟨ps.length - (k + 1), (by omega), k + 1, a0_, on + 1, c0_, os ++ [slP (ps.getD k default)], (by rfl), ⟨by omega, ⟨by simp [hon], by omega, by rw [outD_app, hos, find_yes (by omega) (by assumption)]; rfl, fun q hq => (List.mem_append.1 hq).elim (hoq q) (fun m => by rw [List.mem_singleton.1 m]; exact slP_ok hx)⟩⟩, (.cons rfl (.cons rfl (.nil (by repeat first | with_reducible exact Mx.refl | with_reducible exact Mx.mix | refine Mx.put rfl ?_ | refine Mx.upd rfl ?_ | refine Mx.updl rfl ?_ | refine Mx.fin rfl ?_ | refine Mx.inner rfl ?_ | refine Mx.none ?_ | exact Mx.refl | exact Mx.mix)))), rfl, rfl⟩
          | exact ⟨ps.length - (k + 1), (by omega), k + 1, a, on, oc, os, (by rfl), ⟨by omega, ⟨hon, by omega, by rw [hos, find_no (by omega) (by assumption)], hoq⟩⟩, (.cons rfl (.cons rfl (.nil (by repeat first | with_reducible exact Mx.refl | with_reducible exact Mx.mix | refine Mx.put rfl ?_ | refine Mx.upd rfl ?_ | refine Mx.updl rfl ?_ | refine Mx.fin rfl ?_ | refine Mx.inner rfl ?_ | refine Mx.none ?_ | exact Mx.refl | exact Mx.mix)))), rfl, rfl⟩
        )
     ·skip
      first
       | (exfalso; first | omega | contradiction | (clear hK9 K9; clear hK8 K8; clear hK7 K7; clear hK6 K6; clear hK5 K5; clear hK4 K4; clear hK3 K3; clear hK2 K2; clear hK1 K1; clear hK0 K0; simp at *; done))
       | (
        refine SW.skip ?_
        refine hK7 _ _ _ ?_
        refine SW.drop ?_
        refine SW.region _ _ _ _ ?_
        first | refine RL.ar ?_ | refine RL.p T ?_
        refine RL.p T ?_
        refine RL.nil _ _ _ _ ?_
        first
          | exact ⟨ps.length - (k + 1), (by omega), k + 1, a0_, on + 1, c0_, os ++ [slP (ps.getD k default)], (by rfl), ⟨by omega, ⟨by simp [hon], by omega, by rw [outD_app, hos, find_yes (by omega) (by assumption)]; rfl, fun q hq => (List.mem_append.1 hq).elim (hoq q) (fun m => by rw [List.mem_singleton.1 m]; exact slP_ok hx)⟩⟩, (.cons rfl (.cons rfl (.nil (by repeat first | with_reducible exact Mx.refl | with_reducible exact Mx.mix | refine Mx.put rfl ?_ | refine Mx.upd rfl ?_ | refine Mx.updl rfl ?_ | refine Mx.fin rfl ?_ | refine Mx.inner rfl ?_ | refine Mx.none ?_ | exact Mx.refl | exact Mx.mix)))), rfl, rfl⟩
          | exact ⟨ps.length - (k + 1), (by omega), k + 1, a, on, oc, os, (by rfl), ⟨by omega, ⟨hon, by omega, by rw [hos, find_no (by omega) (by assumption)], hoq⟩⟩, (.cons rfl (.cons rfl (.nil (by repeat first | with_reducible exact Mx.refl | with_reducible exact Mx.mix | refine Mx.put rfl ?_ | refine Mx.upd rfl ?_ | refine Mx.updl rfl ?_ | refine Mx.fin rfl ?_ | refine Mx.inner rfl ?_ | refine Mx.none ?_ | exact Mx.refl | exact Mx.mix)))), rfl, rfl⟩
        )
     )
  ·skip
   first
    | (exfalso; first | omega | contradiction | (clear hK6 K6; clear hK5 K5; clear hK4 K4; clear hK3 K3; clear hK2 K2; clear hK1 K1; clear hK0 K0; simp at *; done))
    | (
     refine SW.exit ?_
     refine hK3 _ _ _ ?_
     refine SW.seq_k fun K10 hK10 => ?_
     refine SW.region _ _ _ _ ?_
     refine RL.p T ?_
     refine RL.p T ?_
     refine RL.p T ?_
     refine RL.p T ?_
     refine RL.nil _ _ _ _ ?_
     refine hK10 _ _ _ ?_
     refine SW.ret ?_
     refine retQ.wk ((.row a on oc 23 1 (List.flatMap SlC os) :: ((.row a5 ps.length c5 35 2 (List.flatMap PdC ps) :: D5) ++ H))) ?_
     refine retQ.rr _ ?_ (hH := fun w hw => hw)
     clear hK10 K10 hK6 K6 hK5 K5 hK4 K4 hK3 K3 hK2 K2 hK1 K1 hK0 K0
     rw [List.take_of_length_le (by omega), hps] at hos
     exact ⟨_ :: D5, a, on, oc, os, rfl, rfl, hon, by omega, hos, fun q hq => (hoq q hq).cons⟩
     )
end Go.Proofs.YthigfghfpmpiiaaDoor.M
