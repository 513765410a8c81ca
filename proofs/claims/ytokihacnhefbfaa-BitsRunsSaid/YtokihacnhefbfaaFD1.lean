import Derived.Test.YtokihacnhefbfaaProg
import Derived.Test.YtokihacnhefbfaaFC1
set_option linter.unusedVariables false
set_option linter.unusedSimpArgs false
namespace Go.Proofs.Ytokihacnhefbfaa.M
open Go Go.Sep Go.Proofs
set_option maxRecDepth 10000
set_option maxHeartbeats 2000000
theorem pack_bad {w0 : World} {H : List Chunk} (sa : Option Addr) (n c : Nat) (es : List Int) (hR : Rd w0 H sa n c 1 (es.map (.int .u8))) (hn : n = es.length) (hm : n ≤ 140737488351232) (hb : Byte es) (h : chk es ≠ 0 ∨ es.length % 8 ≠ 0) : SC Try.prog w0 17 #[.slice sa n c] H (fun v H' => v = .tuple #[.slice none 0 0, .int .i64 (packV es).2] ∧ H' = H) := by
 refine SC.enterM Try.func17 rfl (Nat.le_of_ble_eq_true rfl) ?_
 refine SW.seq_k fun K0 hK0 => ?_
 refine SW.region _ _ _ _ ?_
 refine RL.p T ?_
 refine RL.p T ?_
 refine RL.nil _ _ _ _ ?_
 refine hK0 _ _ _ ?_
 refine SW.seq_k fun K1 hK1 => ?_
 refine SW.seq_k fun K2 hK2 => ?_
 refine SW.region _ _ _ _ ?_
 refine RL.p T ?_
 refine RL.c fun14 (fun hs => check sa n c es hR hn hm) ?_
 rintro _ _ ⟨rfl, e⟩; obtain rfl := e.symm
 refine RL.p T ?_
 refine RL.nil _ _ _ _ ?_
 refine hK2 _ _ _ ?_
 refine SW.seq_k fun K3 hK3 => ?_
 refine SW.region _ _ _ _ ?_
 refine RL.p T ?_
 refine RL.p T ?_
 refine RL.nil _ _ _ _ ?_
 refine hK3 _ _ _ ?_
 refine SW.cs (fun hc0 => ?_) (fun hc0 => ?_)
 ·skip
  first
   | (exfalso; omega)
   | (
    refine SW.seq_k fun K4 hK4 => ?_
    refine SW.region _ _ _ _ ?_
    refine RL.p T ?_
    refine RL.p T ?_
    refine RL.p T ?_
    refine RL.nil _ _ _ _ ?_
    refine hK4 _ _ _ ?_
    refine SW.ret ?_
    refine Lv.sat fun hs => Lv.nil (H' := H) (RVs.tmp (by conv => lhs; whnf) (RVs.tmp (by conv => lhs; whnf) RVs.nil)) (fun w hw => Sat.sub (by repeat first | exact List.Sublist.refl _ | apply List.Sublist.cons_cons | apply List.Sublist.cons | exact List.sublist_append_right _ _ | refine List.Sublist.trans ?_ (List.sublist_append_right _ _)) hw) ?_
    clear hK4 K4 hK3 K3 hK2 K2 hK1 K1 hK0 K0
    refine ⟨?_, rfl⟩
    unfold packV
    first
      | (rw [if_neg (by omega), show chk es = 2 from (chk_or es).resolve_left (by omega)]; rfl)
      | (rw [if_pos (by omega), if_neg (by omega)]; rfl)
    )
 ·skip
  first
   | (exfalso; omega)
   | (
    refine SW.skip ?_
    refine hK1 _ _ _ ?_
    refine SW.seq_k fun K5 hK5 => ?_
    refine SW.seq_k fun K6 hK6 => ?_
    refine SW.region _ _ _ _ ?_
    refine RL.p T ?_
    refine RL.p T ?_
    first | refine RL.q (QV.remP rfl rfl rfl (by omega) (by omega)) ?_ | refine RL.q (QV.rem rfl rfl rfl (by omega) rfl) ?_
    refine RL.p T ?_
    refine RL.nil _ _ _ _ ?_
    refine hK6 _ _ _ ?_
    refine SW.cs (fun hc1 => ?_) (fun hc1 => ?_)
    ·skip
     first
      | (exfalso; omega)
      | (
       refine SW.seq_k fun K7 hK7 => ?_
       refine SW.region _ _ _ _ ?_
       refine RL.p T ?_
       refine RL.p T ?_
       refine RL.nil _ _ _ _ ?_
       refine hK7 _ _ _ ?_
       refine SW.ret ?_
       refine Lv.sat fun hs => Lv.nil (H' := H) (RVs.tmp (by conv => lhs; whnf) (RVs.tmp (by conv => lhs; whnf) RVs.nil)) (fun w hw => Sat.sub (by repeat first | exact List.Sublist.refl _ | apply List.Sublist.cons_cons | apply List.Sublist.cons | exact List.sublist_append_right _ _ | refine List.Sublist.trans ?_ (List.sublist_append_right _ _)) hw) ?_
       clear hK7 K7 hK6 K6 hK5 K5 hK3 K3 hK2 K2 hK1 K1 hK0 K0
       refine ⟨?_, rfl⟩
       unfold packV
       first
         | (rw [if_neg (by omega), show chk es = 2 from (chk_or es).resolve_left (by omega)]; rfl)
         | (rw [if_pos (by omega), if_neg (by omega)]; rfl)
       )
    ·skip
     exfalso; omega
    )
theorem pack_ok {w0 : World} {H : List Chunk} (sa : Option Addr) (n c : Nat) (es : List Int) (hR : Rd w0 H sa n c 1 (es.map (.int .u8))) (hn : n = es.length) (hm : n ≤ 140737488351232) (hb : Byte es) (hc : chk es = 0) (h8 : es.length % 8 = 0) : SC Try.prog w0 17 #[.slice sa n c] H (fun v H' => RV w0 H (packV es).1 (packV es).2 v H') := by
 refine SC.enterM Try.func17 rfl (Nat.le_of_ble_eq_true rfl) ?_
 refine SW.seq_k fun K0 hK0 => ?_
 refine SW.region _ _ _ _ ?_
 refine RL.p T ?_
 refine RL.p T ?_
 refine RL.nil _ _ _ _ ?_
 refine hK0 _ _ _ ?_
 refine SW.seq_k fun K1 hK1 => ?_
 refine SW.seq_k fun K2 hK2 => ?_
 refine SW.region _ _ _ _ ?_
 refine RL.p T ?_
 refine RL.c fun14 (fun hs => check sa n c es hR hn hm) ?_
 rintro _ _ ⟨rfl, e⟩; obtain rfl := e.symm
 refine RL.p T ?_
 refine RL.nil _ _ _ _ ?_
 refine hK2 _ _ _ ?_
 refine SW.seq_k fun K3 hK3 => ?_
 refine SW.region _ _ _ _ ?_
 refine RL.p T ?_
 refine RL.p T ?_
 refine RL.nil _ _ _ _ ?_
 refine hK3 _ _ _ ?_
 refine SW.cs (fun hc0 => ?_) (fun hc0 => ?_)
 ·skip
  first
   | (exfalso; omega)
   | (
    refine SW.seq_k fun K4 hK4 => ?_
    refine SW.region _ _ _ _ ?_
    refine RL.p T ?_
    refine RL.p T ?_
    refine RL.p T ?_
    refine RL.nil _ _ _ _ ?_
    refine hK4 _ _ _ ?_
    refine SW.sat (fun hs => ?_)
    refine SW.ret ?_
    refine Lv.sat fun hs => Lv.nil  (RVs.tmp (by conv => lhs; whnf) (RVs.tmp (by conv => lhs; whnf) RVs.nil)) (fun w hw => hw) ?_
    clear hK4 K4 hK3 K3 hK2 K2 hK1 K1 hK0 K0
    rw [show packV es = (packS (es.length / 8) es, 0) by unfold packV; rw [if_pos hc, if_pos h8]]
    exact ⟨_, rfl, ⟨_, _, _, rfl, (packS_len _ _).symm, Rd.rowh hs (by repeat first | exact At.head _ _ | apply At.tail), [_, _, _, _, _, _], rfl⟩⟩
    )
 ·skip
  first
   | (exfalso; omega)
   | (
    refine SW.skip ?_
    refine hK1 _ _ _ ?_
    refine SW.seq_k fun K5 hK5 => ?_
    refine SW.seq_k fun K6 hK6 => ?_
    refine SW.region _ _ _ _ ?_
    refine RL.p T ?_
    refine RL.p T ?_
    first | refine RL.q (QV.remP rfl rfl rfl (by omega) (by omega)) ?_ | refine RL.q (QV.rem rfl rfl rfl (by omega) rfl) ?_
    refine RL.p T ?_
    refine RL.nil _ _ _ _ ?_
    refine hK6 _ _ _ ?_
    refine SW.cs (fun hc1 => ?_) (fun hc1 => ?_)
    ·skip
     first
      | (exfalso; omega)
      | (
       refine SW.seq_k fun K7 hK7 => ?_
       refine SW.region _ _ _ _ ?_
       refine RL.p T ?_
       refine RL.p T ?_
       refine RL.nil _ _ _ _ ?_
       refine hK7 _ _ _ ?_
       refine SW.sat (fun hs => ?_)
       refine SW.ret ?_
       refine Lv.sat fun hs => Lv.nil  (RVs.tmp (by conv => lhs; whnf) (RVs.tmp (by conv => lhs; whnf) RVs.nil)) (fun w hw => hw) ?_
       clear hK7 K7 hK6 K6 hK5 K5 hK3 K3 hK2 K2 hK1 K1 hK0 K0
       rw [show packV es = (packS (es.length / 8) es, 0) by unfold packV; rw [if_pos hc, if_pos h8]]
       exact ⟨_, rfl, ⟨_, _, _, rfl, (packS_len _ _).symm, Rd.rowh hs (by repeat first | exact At.head _ _ | apply At.tail), [_, _, _, _, _, _], rfl⟩⟩
       )
    ·skip
     first
      | (exfalso; omega)
      | (
       refine SW.skip ?_
       refine hK5 _ _ _ ?_
       refine SW.seq_k fun K8 hK8 => ?_
       refine SW.region _ _ _ _ ?_
       refine RL.s ?_
       refine NV.alloc T rfl rfl rfl (by exact (rfl : _ = [_])) ?_
       intro b5_0
       refine RL.nil _ _ _ _ ?_
       refine hK8 _ _ _ ?_
       refine SW.seq_k fun K9 hK9 => ?_
       refine SW.seq_k fun K10 hK10 => ?_
       refine SW.nilrow 5 1 ?_
       refine SW.region _ _ _ _ ?_
       refine RL.p T ?_
       refine RL.c fun30 (fun hs => chunkF sa n c 8 (by omega)) ?_
       rintro _ _ ⟨bs, bm, rfl, e⟩; obtain rfl := e.symm
       refine RL.nil _ _ _ _ ?_
       refine hK10 _ _ _ ?_
       refine SW.block ?_
       refine SW.rangeF (hfun := fun37) (fun L D LO hY => ?_)
       refine (chunkIter L bs bm sa n c 8 es hm (by omega) (by omega) (hV := fun k HJ ⟨_, _, e⟩ => by rw [e.2]; exact ⟨_, .tail (.tail (.tail (.head _ _)))⟩) (hV2 := fun k HJ ⟨_, _, e⟩ => by rw [e.2]; exact ⟨_, .tail (.tail (.head _ _))⟩) (hJR := fun k HJ ⟨_, _, e⟩ hs => by rw [e.2]; exact hR.cons.cons.cons.cons.cons.cons) (J := fun k HJ => ∃ (a : Option Addr) (cc : Nat), (True) ∧ HJ = LO .ready none :: .obj D (.deferred (some [])) :: (.var bm 3 [.int .i64 8] :: .var bs 22 [.slice sa n c] :: .row a k cc 5 1 ((packS k es).map (.int .u8)) :: .var b5_0 22 [.slice a k cc] :: H)) (X := fun HJ => False) ?_ (fun k h HJ hk hh hJ => ?_)).mono ?_
       ·exact ⟨none, 0, trivial, rfl⟩
       ·obtain ⟨a, cc, _, rfl⟩ := hJ
        obtain ⟨hlo, hhi, hor, _⟩ := hh
        obtain rfl : h = 8 * k + 8 := by omega
        have hP := (hR.part (8 * k + 8) (l := 8 * k) (h := 8 * k + 8) (by omega) (by omega) (by omega))
        have hB := (chk_bit hb hc).drop (k := 8 * k) |>.take (k := 8 * k + 8 - 8 * k)
        have hLn : ((es.drop (8 * k)).take (8 * k + 8 - 8 * k)).length = 8 * k + 8 - 8 * k := by rw [List.length_take, List.length_drop]; omega
        have hN := numS_lt hB (m := 8) (by omega)
        refine hY (At.head _ _) rfl ?_
        refine SW.region _ _ _ _ ?_
        refine RL.p T ?_
        refine RL.nil _ _ _ _ ?_
        refine ⟨_, (by repeat first | exact At.head _ _ | apply At.tail), ?_⟩
        refine SW.block ?_
        refine SW.seq_k fun K11 hK11 => ?_
        refine SW.region _ _ _ _ ?_
        refine RL.s ?_
        refine NV.alloc T rfl rfl rfl (by exact (rfl : _ = [_])) ?_
        intro b7_1
        refine RL.nil _ _ _ _ ?_
        refine hK11 _ _ _ ?_
        refine SW.seq_k fun K12 hK12 => ?_
        refine SW.region _ _ _ _ ?_
        refine RL.p T ?_
        refine RL.p T ?_
        refine RL.c fun25 (fun hs => eachAdd _ 0 (by omega) _ _ _ _ hP.cons.cons.cons.cons.cons.cons hLn.symm (by omega) (numS_room (by omega)) hB) ?_
        rintro _ _ e; obtain rfl := e.symm
        refine RL.nil _ _ _ _ ?_
        refine hK12 _ _ _ ?_
        refine SW.region _ _ _ _ ?_
        refine RL.lv1 T ?_
        refine RL.lv1 T ?_
        first | refine RL.cv T ?_ | refine RL.p T ?_ | refine RL.ts T ?_
        refine RL.bs T rfl rfl rfl (by exact (rfl : _ = some [_])) (fun b26_2 => ?_)
        first | refine RL.apI1 T (fun a0_ c0_ => ?_) | refine RL.apI T (fun a0_ c0_ => ?_)
        refine RL.sv1 T ?_
        refine RL.drop ?_
        refine RL.nil _ _ _ _ ?_
        exact ⟨_, (by repeat first | exact At.head _ _ | apply At.tail), true, rfl, fun _ => ⟨_, _, trivial, (by rw [packS_snoc, Nat.add_sub_cancel_left])⟩, fun h => by cases h⟩
       ·rintro v HJ (⟨k, hk1, hk2, a, cc, _, rfl⟩ | hF)
        ·refine ⟨_, _, none, At.head _ _, (fun h => by cases h), ?_⟩
         obtain rfl : k = es.length / 8 := by omega
         refine hK9 _ _ _ ?_
         refine SW.seq_k fun K13 hK13 => ?_
         refine SW.region _ _ _ _ ?_
         refine RL.lv1 T ?_
         refine RL.p T ?_
         refine RL.p T ?_
         refine RL.nil _ _ _ _ ?_
         refine hK13 _ _ _ ?_
         refine SW.sat (fun hs => ?_)
         refine SW.ret ?_
         refine Lv.mark (by repeat first | exact At.head _ _ | assumption | exact At.put (by assumption) _ | apply At.tail | apply At.app) (Lv.sat fun hs => Lv.nil  (RVs.tmp (by conv => lhs; whnf) (RVs.tmp (by conv => lhs; whnf) RVs.nil)) (fun w hw => hw) ?_)
         clear hK13 K13 hK10 K10 hK9 K9 hK8 K8 hK6 K6 hK5 K5 hK3 K3 hK2 K2 hK1 K1 hK0 K0
         rw [show packV es = (packS (es.length / 8) es, 0) by unfold packV; rw [if_pos hc, if_pos h8]]
         exact ⟨_, rfl, ⟨_, _, _, rfl, (packS_len _ _).symm, Rd.rowh hs (by repeat first | exact At.head _ _ | apply At.tail), [_, _, _, _, _, _], rfl⟩⟩
        ·exact hF.elim
       )
    )
end Go.Proofs.Ytokihacnhefbfaa.M
