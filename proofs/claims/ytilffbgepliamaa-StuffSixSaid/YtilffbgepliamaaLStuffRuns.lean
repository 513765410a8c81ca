import Derived.Test.YtilffbgepliamaaProg
import Derived.Test.YtilffbgepliamaaFE3
import Derived.Test.YtilffbgepliamaaS14
import Derived.Test.YtilffbgepliamaaP3d
import Derived.Test.YtilffbgepliamaaP1b
set_option linter.unusedVariables false
set_option linter.unusedSimpArgs false
namespace Go.Proofs.Ytilffbgepliamaa.M
open Go Go.Sep Go.Proofs
set_option maxRecDepth 10000
set_option maxHeartbeats 2000000
theorem backF {w0 : World} {H : List Chunk} (sa : Option Addr) (n c : Nat) : SC Try.prog w0 31 #[.slice sa n c] H (fun v H' => ∃ b, v = .func (.func 37) #[] #[.pointer (some ⟨b, 0, none⟩)] ∧ H' = .var b 22 [.slice sa n c] :: H) := by
 refine SC.enter Try.func31 rfl (Nat.le_of_ble_eq_true rfl) ?_
 refine SW.seq_k fun K0 hK0 => ?_
 refine SW.region _ _ _ _ ?_
 refine RL.s ?_
 refine NV.box rfl (by exact (rfl : _ = [_])) ?_
 intro b1_0
 refine RL.p T ?_
 refine RL.nil _ _ _ _ ?_
 refine hK0 _ _ _ ?_
 refine SW.seq_k fun K1 hK1 => ?_
 refine SW.region _ _ _ _ ?_
 refine RL.p T ?_
 refine RL.p T ?_
 refine RL.nil _ _ _ _ ?_
 refine hK1 _ _ _ ?_
 refine SW.ret ?_
 refine retQ.rr _ ?_ (hH := fun w hw => hw)
 clear hK1 K1 hK0 K0
 exact ⟨_, rfl, rfl⟩
theorem backIter {w0 : World} {H : List Chunk} (L b : Nat) (sa : Option Addr) (n c : Nat) (es : List Int) (hm : n ≤ 140737488351232) (hn : n = es.length) {J : Nat → List Chunk → Prop} {X : List Chunk → Prop} (hV : ∀ k HJ, J k HJ → ∃ kk, At HJ (.var b 22 [.slice sa n c]) kk) (hJR : ∀ k HJ, J k HJ → (∃ w, Sat w0 w HJ) → Rd w0 HJ sa n c 1 (es.map (.int .u8))) (hJ0 : J 0 H) (hround : ∀ k HJ, k < n → J k HJ → Yld Try.prog w0 none L [.int .i64 ((n : Int) - 1 - k), .int .u8 (es.getD ((n : Int) - 1 - k).toNat 0)] HJ (fun v H' => ∃ bb, v = .bool bb ∧ (bb = true → J (k + 1) H') ∧ (bb = false → X H'))) : SC Try.prog w0 37 #[.func (.yield L) #[] #[], .pointer (some ⟨b, 0, none⟩)] H (fun v H' => J n H' ∨ X H') := by
 refine SC.enter Try.func37 rfl (Nat.le_of_ble_eq_true rfl) ?_
 refine SW.seq_k fun K0 hK0 => ?_
 obtain ⟨kv0, hat0⟩ := hV 0 H hJ0
 refine SW.region _ _ _ _ ?_
 first | refine RL.lv1 T ?_ | refine RL.le T ?_
 refine RL.p T ?_
 first | refine RL.ar ?_ | refine RL.p T ?_
 refine RL.p T ?_
 refine RL.nil _ _ _ _ ?_
 refine hK0 _ _ _ ?_
 refine SW.block ?_
 refine SW.loopM (fun frB mm fr ds HH => ∃ (k : Nat) (HJ : List Chunk), mm = n - k ∧ (k ≤ n ∧ J k HJ) ∧ FrIs [3, 7, 8, 9, 10, 11, 12, 13, 14, 15, 16, 17, 18] frB fr [(3, .int .i64 ((n : Int) - 1 - k))] ∧ ds = [] ∧ HH = HJ) (n := n - 0) ?_ ?_
 ·exact ⟨0, H, rfl, ⟨Nat.zero_le _, hJ0⟩, (.consI rfl (by first | omega | rfl) (.nil (by repeat first | exact Mx.refl | exact Mx.mix | refine Mx.put rfl ?_ | refine Mx.upd rfl ?_ | refine Mx.updl rfl ?_ | refine Mx.fin rfl ?_ | refine Mx.inner rfl ?_ | refine Mx.none ?_))), rfl, rfl⟩
 ·rintro mm fr ds HH ⟨k, HJ, rfl, ⟨hk, hJ⟩, hFr, rfl, eHH⟩
  obtain rfl := eHH.symm
  obtain ⟨frU, rfl⟩ := hFr.eq
  clear hFr
  obtain ⟨kv, hat⟩ := hV k HJ hJ
  have hRk := hJR k HJ hJ
  refine SW.seq_k fun K1 hK1 => ?_
  refine SW.seq_k fun K2 hK2 => ?_
  refine SW.region _ _ _ _ ?_
  refine RL.p T ?_
  refine RL.p T ?_
  refine RL.nil _ _ _ _ ?_
  refine hK2 _ _ _ ?_
  refine SW.cs (fun hc0 => ?_) (fun hc0 => ?_)
  ·skip
   refine SW.skip ?_
   refine hK1 _ _ _ ?_
   refine SW.seq_k fun K3 hK3 => ?_
   refine SW.block ?_
   refine SW.seq_k fun K4 hK4 => ?_
   refine SW.region _ _ _ _ ?_
   refine RL.p T ?_
   refine RL.p T ?_
   first | refine RL.lv1 T ?_ | refine RL.le T ?_
   refine RL.p T ?_
   refine RL.ix T ?_
   refine RL.le T ?_
   refine RL.s ?_
   refine NV.yield ((hround k HJ (by omega) hJ).mono ?_)
   rintro _ HY ⟨bb, rfl, hY1, hY2⟩
   refine RL.p T ?_
   refine RL.nil _ _ _ _ ?_
   refine hK4 _ _ _ ?_
   refine SW.cs (fun hc1 => ?_) (fun hc1 => ?_)
   ·skip
    refine SW.ret ?_
    refine retQ.rr _ ?_ (hH := fun w hw => hw)
    clear hK4 K4 hK3 K3 hK2 K2 hK1 K1 hK0 K0
    first
      | exact .inr (hY2 (by first | assumption | simp_all))
      | (obtain rfl : k = n := by omega
         exact .inl hJ)
   ·skip
    refine SW.skip ?_
    refine hK3 _ _ _ ?_
    refine SW.region _ _ _ _ ?_
    refine RL.p T ?_
    first | refine RL.ar ?_ | refine RL.p T ?_
    refine RL.p T ?_
    refine RL.nil _ _ _ _ ?_
    exact ⟨n - (k + 1), (by omega), k + 1, HY, (by rfl), ⟨by omega, hY1 (by first | assumption | simp_all)⟩, (.consI rfl (by first | omega | rfl) (.nil (by repeat first | exact Mx.refl | exact Mx.mix | refine Mx.put rfl ?_ | refine Mx.upd rfl ?_ | refine Mx.updl rfl ?_ | refine Mx.fin rfl ?_ | refine Mx.inner rfl ?_ | refine Mx.none ?_))), rfl, rfl⟩
  ·skip
   refine SW.exit ?_
   try simp only [thenQ, blockQ, Nat.beq_refl, cond_true]
   refine retQ.nn _ ?_ (hH := fun w hw => hw)
   clear hK2 K2 hK1 K1 hK0 K0
   first
     | exact .inr (hY2 (by first | assumption | simp_all))
     | (obtain rfl : k = n := by omega
        exact .inl hJ)
theorem brun {w0 : World} {H : List Chunk} (sa : Option Addr) (n c : Nat) (es : List Int) (hR : Rd w0 H sa n c 1 (es.map (.int .u8))) (hn : n = es.length) (hm : n ≤ 140737488351232) : SC Try.prog w0 19 #[.slice sa n c] H (fun v H' => v = .int .i64 (runV es) ∧ H' = H) := by
 refine SC.enterM Try.func19 rfl (Nat.le_of_ble_eq_true rfl) ?_
 refine SW.seq_k fun K0 hK0 => ?_
 refine SW.region _ _ _ _ ?_
 refine RL.p T ?_
 refine RL.nil _ _ _ _ ?_
 refine hK0 _ _ _ ?_
 refine SW.seq_k fun K1 hK1 => ?_
 refine SW.seq_k fun K2 hK2 => ?_
 refine SW.region _ _ _ _ ?_
 refine RL.p T ?_
 refine RL.p T ?_
 refine RL.p T ?_
 refine RL.nil _ _ _ _ ?_
 refine hK2 _ _ _ ?_
 refine SW.cs (fun hc0 => ?_) (fun hc0 => ?_)
 ·skip
  refine SW.seq_k fun K3 hK3 => ?_
  refine SW.region _ _ _ _ ?_
  refine RL.p T ?_
  refine RL.nil _ _ _ _ ?_
  refine hK3 _ _ _ ?_
  refine SW.ret ?_
  skip
  refine Lv.sat fun hs => Lv.nil (H' := H) (RVs.tmp (by conv => lhs; whnf) RVs.nil) (fun w hw => Sat.sub (by repeat first | exact List.Sublist.refl _ | apply List.Sublist.cons_cons | apply List.Sublist.cons | exact List.sublist_append_right _ _ | refine List.Sublist.trans ?_ (List.sublist_append_right _ _)) hw) ?_
  clear hK3 K3 hK2 K2 hK1 K1 hK0 K0
  first
    | exact ⟨intE (runV_nil (by omega)).symm, rfl⟩
    | exact ⟨intE (hI.stop ⟨hk, hn⟩ hne), rfl⟩
    | exact ⟨intE (hI.end (by omega)), rfl⟩
 ·skip
  refine SW.skip ?_
  refine hK1 _ _ _ ?_
  refine SW.seq_k fun K4 hK4 => ?_
  refine SW.region _ _ _ _ ?_
  refine RL.p T ?_
  refine RL.p T ?_
  refine RL.p T ?_
  first | refine RL.ar ?_ | refine RL.p T ?_
  refine RL.ix T ?_
  refine RL.le T ?_ (hv := (map_as (by omega) (lastI_get (by omega) (by omega))))
  refine RL.s ?_
  refine NV.alloc T rfl rfl rfl (by exact (rfl : _ = [_])) ?_
  intro b3_0
  refine RL.sv1 T ?_
  refine RL.nil _ _ _ _ ?_
  refine hK4 _ _ _ ?_
  refine SW.seq_k fun K5 hK5 => ?_
  refine SW.region _ _ _ _ ?_
  refine RL.s ?_
  refine NV.alloc T rfl rfl rfl (by exact (rfl : _ = [_])) ?_
  intro b4_1
  refine RL.sv1 T ?_
  refine RL.nil _ _ _ _ ?_
  refine hK5 _ _ _ ?_
  refine SW.seq_k fun K6 hK6 => ?_
  refine SW.seq_k fun K7 hK7 => ?_
  refine SW.region _ _ _ _ ?_
  refine RL.p T ?_
  refine RL.c fun31 (fun hs => backF sa n c) ?_
  rintro _ _ ⟨bb, rfl, e⟩; obtain rfl := e.symm
  refine RL.nil _ _ _ _ ?_
  refine hK7 _ _ _ ?_
  refine SW.block ?_
  refine SW.rangeF (hfun := fun37) (fun L D LO hY => ?_)
  refine (backIter L bb sa n c es hm hn (hV := fun k HJ ⟨_, e⟩ => by rw [e.2]; exact ⟨_, .tail (.tail (.head _ _))⟩) (hJR := fun k HJ ⟨_, e⟩ hs => by rw [e.2]; exact hR.cons.cons.cons.cons.cons) (J := fun k HJ => ∃ (_ : Unit), (RunI es k) ∧ HJ = LO .ready none :: .obj D (.deferred (some [])) :: (.var bb 22 [.slice sa n c] :: .var b4_1 3 [.int .i64 k] :: .var b3_0 5 [.int .u8 (lastI es)] :: H)) (X := fun HJ => (∃ (k : Nat), (k < n ∧ RunI es k ∧ ¬ es.getD ((n : Int) - 1 - k).toNat 0 = lastI es) ∧ HJ = LO .done (some (.exit 0)) :: .obj D (.deferred (some [])) :: (.var bb 22 [.slice sa n c] :: .var b4_1 3 [.int .i64 k] :: .var b3_0 5 [.int .u8 (lastI es)] :: H))) ?_ (fun k HJ hk hJ => ?_)).mono ?_
  ·exact ⟨(), RunI.start, rfl⟩
  ·obtain ⟨_, hI, rfl⟩ := hJ
   refine hY (At.head _ _) rfl ?_
   refine SW.region _ _ _ _ ?_
   refine RL.p T ?_
   refine RL.nil _ _ _ _ ?_
   refine ⟨_, (by repeat first | exact At.head _ _ | apply At.tail), ?_⟩
   refine SW.block ?_
   refine SW.seq_k fun K8 hK8 => ?_
   refine SW.seq_k fun K9 hK9 => ?_
   refine SW.region _ _ _ _ ?_
   refine RL.p T ?_
   refine RL.lv1 T ?_
   refine RL.p T ?_
   refine RL.nil _ _ _ _ ?_
   refine hK9 _ _ _ ?_
   refine SW.cs (fun hc1 => ?_) (fun hc1 => ?_)
   ·skip
    refine SW.exit ?_
    exact ⟨_, (by repeat first | exact At.head _ _ | apply At.tail), false, rfl, (fun h => by cases h), fun _ => ⟨k, ⟨hk, hI, by assumption⟩, rfl⟩⟩
   ·skip
    refine SW.skip ?_
    refine hK8 _ _ _ ?_
    refine SW.region _ _ _ _ ?_
    refine RL.lv1 T ?_
    first | refine RL.ar ?_ | refine RL.p T ?_
    refine RL.sv1 T ?_
    refine RL.nil _ _ _ _ ?_
    exact ⟨_, (by repeat first | exact At.head _ _ | apply At.tail), true, rfl, fun _ => ⟨(), hI.step ⟨hk, hn⟩ (by assumption), rfl⟩, fun h => by cases h⟩
  ·rintro v HJ (⟨_, hI, rfl⟩ | ⟨k, ⟨hk, hI, hne⟩, rfl⟩)
   ·refine ⟨_, _, none, At.head _ _, (fun h => by cases h), ?_⟩
    refine hK6 _ _ _ ?_
    refine SW.seq_k fun K10 hK10 => ?_
    refine SW.region _ _ _ _ ?_
    refine RL.lv1 T ?_
    refine RL.p T ?_
    refine RL.nil _ _ _ _ ?_
    refine hK10 _ _ _ ?_
    refine SW.ret ?_
    skip
    refine Lv.mark (by repeat first | exact At.head _ _ | assumption | exact At.put (by assumption) _ | apply At.tail | apply At.app) (Lv.sat fun hs => Lv.nil (H' := H) (RVs.tmp (by conv => lhs; whnf) RVs.nil) (fun w hw => Sat.sub (by repeat first | exact List.Sublist.refl _ | apply List.Sublist.cons_cons | apply List.Sublist.cons | exact List.sublist_append_right _ _ | refine List.Sublist.trans ?_ (List.sublist_append_right _ _)) hw) ?_)
    clear hK10 K10 hK7 K7 hK6 K6 hK5 K5 hK4 K4 hK2 K2 hK1 K1 hK0 K0
    first
      | exact ⟨intE (runV_nil (by omega)).symm, rfl⟩
      | exact ⟨intE (hI.stop ⟨hk, hn⟩ hne), rfl⟩
      | exact ⟨intE (hI.end (by omega)), rfl⟩
   ·refine ⟨_, _, some _, At.head _ _, (fun h => by cases h), ?_⟩
    refine SW.exit ?_
    refine hK6 _ _ _ ?_
    refine SW.seq_k fun K11 hK11 => ?_
    refine SW.region _ _ _ _ ?_
    refine RL.lv1 T ?_
    refine RL.p T ?_
    refine RL.nil _ _ _ _ ?_
    refine hK11 _ _ _ ?_
    refine SW.ret ?_
    skip
    refine Lv.mark (by repeat first | exact At.head _ _ | assumption | exact At.put (by assumption) _ | apply At.tail | apply At.app) (Lv.sat fun hs => Lv.nil (H' := H) (RVs.tmp (by conv => lhs; whnf) RVs.nil) (fun w hw => Sat.sub (by repeat first | exact List.Sublist.refl _ | apply List.Sublist.cons_cons | apply List.Sublist.cons | exact List.sublist_append_right _ _ | refine List.Sublist.trans ?_ (List.sublist_append_right _ _)) hw) ?_)
    clear hK11 K11 hK7 K7 hK6 K6 hK5 K5 hK4 K4 hK2 K2 hK1 K1 hK0 K0
    first
      | exact ⟨intE (runV_nil (by omega)).symm, rfl⟩
      | exact ⟨intE (hI.stop ⟨hk, hn⟩ hne), rfl⟩
      | exact ⟨intE (hI.end (by omega)), rfl⟩
theorem runs_no {w0 : World} {H : List Chunk} (sa : Option Addr) (n c : Nat) (es : List Int) (hR : ∀ H, Rd w0 H sa n c 1 (es.map (.int .u8))) (hn : n = es.length) (hm : n ≤ 140737488351232) (hb : Byte es) (at' : Int) (h : 3000 < n ∨ chk es ≠ 0) : SC Try.prog w0 5 #[.slice sa n c, .int .u16 at'] H (fun v H' => v = .bool true ∧ H' = H) := by
 refine SC.enter Try.func5 rfl (Nat.le_of_ble_eq_true rfl) ?_
 refine SW.seq_k fun K0 hK0 => ?_
 refine SW.region _ _ _ _ ?_
 refine RL.p T ?_
 refine RL.nil _ _ _ _ ?_
 refine hK0 _ _ _ ?_
 refine SW.seq_k fun K1 hK1 => ?_
 refine SW.seq_k fun K2 hK2 => ?_
 refine SW.region _ _ _ _ ?_
 refine RL.c fun9 (fun hs => alive) ?_
 rintro _ _ ⟨rfl, e⟩; obtain rfl := e.symm
 refine RL.p T ?_
 refine RL.nil _ _ _ _ ?_
 refine hK2 _ _ _ ?_
 refine SW.cs (fun hc0 => ?_) (fun hc0 => ?_)
 ·skip
  first
   | (exfalso; first | omega | contradiction)
   | (
    refine SW.seq_k fun K3 hK3 => ?_
    refine SW.region _ _ _ _ ?_
    refine RL.p T ?_
    refine RL.nil _ _ _ _ ?_
    refine hK3 _ _ _ ?_
    refine SW.ret ?_
    refine retQ.rr (H) ?_
    clear hK3 K3 hK2 K2 hK1 K1 hK0 K0
    first | exact ⟨rfl, rfl⟩ | (refine ⟨boolE ?_, rfl⟩; simp; done)
    )
 ·skip
  first
   | (exfalso; first | omega | contradiction)
   | (
    refine SW.skip ?_
    refine hK1 _ _ _ ?_
    refine SW.seq_k fun K4 hK4 => ?_
    refine SW.seq_k fun K5 hK5 => ?_
    refine SW.region _ _ _ _ ?_
    refine RL.p T ?_
    refine RL.p T ?_
    refine RL.p T ?_
    refine RL.p T ?_
    refine RL.join (fr1 := ?_) 3 16 false [17, 18, 19] (fun hs0 hj => ?_) ?_ ?_
    rotate_left
    ·have hs0j := hs0
     try simp only [decide_eq_true_eq, Bool.not_eq_true', decide_eq_false_iff_not, Bool.not_eq_false', Int.not_lt, Int.not_le, Int.toNat_natCast, Bool.and_eq_true, Bool.or_eq_true, Bool.and_eq_false_iff, Bool.or_eq_false_iff] at hs0
     refine RL.p T ?_
     refine RL.c fun18 (fun hs => check sa n c es (hR _) hn hm) ?_
     rintro _ _ ⟨rfl, e⟩; obtain rfl := e.symm
     refine RL.p T ?_
     exact hj
    ·repeat first | exact Mx.refl | exact Mx.mix | refine Mx.put rfl ?_ | refine Mx.upd rfl ?_ | refine Mx.updl rfl ?_ | refine Mx.fin rfl ?_ | refine Mx.inner rfl ?_ | refine Mx.none ?_
    refine RL.or ?_
    refine RL.nil _ _ _ _ ?_
    refine hK5 _ _ _ ?_
    refine SW.cs (fun hc1 => ?_) (fun hc1 => ?_)
    ·skip
     first
      | (exfalso; first | omega | contradiction)
      | (
       refine SW.seq_k fun K6 hK6 => ?_
       refine SW.region _ _ _ _ ?_
       refine RL.p T ?_
       refine RL.nil _ _ _ _ ?_
       refine hK6 _ _ _ ?_
       refine SW.ret ?_
       refine retQ.rr (H) ?_
       clear hK6 K6 hK5 K5 hK4 K4 hK2 K2 hK1 K1 hK0 K0
       first | exact ⟨rfl, rfl⟩ | (refine ⟨boolE ?_, rfl⟩; simp; done)
       )
    ·skip
     exfalso; first | omega | contradiction
    )
theorem runs_ok {w0 : World} {H : List Chunk} (sa : Option Addr) (n c : Nat) (es : List Int) (hR : ∀ H, Rd w0 H sa n c 1 (es.map (.int .u8))) (hn : n = es.length) (hm : n ≤ 140737488351232) (hb : Byte es) (at' : Int) (a0 : 0 ≤ at') (a1 : at' ≤ 65535) (kk : Nat) (hkk : at' % ((n : Int) + 1) = kk) (hk1 : kk ≤ n) (h : n ≤ 3000) (hc : chk es = 0) : SC Try.prog w0 5 #[.slice sa n c, .int .u16 at'] H (fun v H' => v = .bool true ∧ H' = H) := by
 refine SC.enter Try.func5 rfl (Nat.le_of_ble_eq_true rfl) ?_
 refine SW.seq_k fun K0 hK0 => ?_
 refine SW.region _ _ _ _ ?_
 refine RL.p T ?_
 refine RL.nil _ _ _ _ ?_
 refine hK0 _ _ _ ?_
 refine SW.seq_k fun K1 hK1 => ?_
 refine SW.seq_k fun K2 hK2 => ?_
 refine SW.region _ _ _ _ ?_
 refine RL.c fun9 (fun hs => alive) ?_
 rintro _ _ ⟨rfl, e⟩; obtain rfl := e.symm
 refine RL.p T ?_
 refine RL.nil _ _ _ _ ?_
 refine hK2 _ _ _ ?_
 refine SW.cs (fun hc0 => ?_) (fun hc0 => ?_)
 ·skip
  first
   | (exfalso; first | omega | contradiction)
   | (
    refine SW.seq_k fun K3 hK3 => ?_
    refine SW.region _ _ _ _ ?_
    refine RL.p T ?_
    refine RL.nil _ _ _ _ ?_
    refine hK3 _ _ _ ?_
    refine SW.ret ?_
    refine retQ.rr (H) ?_
    clear hK3 K3 hK2 K2 hK1 K1 hK0 K0
    first
      | exact ⟨rfl, rfl⟩
      | (refine ⟨boolE ?_, rfl⟩
         by_cases hz : es.length = 0
         · simp; omega
         · have := hq (by omega); simp; omega)
    )
 ·skip
  first
   | (exfalso; first | omega | contradiction)
   | (
    refine SW.skip ?_
    refine hK1 _ _ _ ?_
    refine SW.seq_k fun K4 hK4 => ?_
    refine SW.seq_k fun K5 hK5 => ?_
    refine SW.region _ _ _ _ ?_
    refine RL.p T ?_
    refine RL.p T ?_
    refine RL.p T ?_
    refine RL.p T ?_
    refine RL.join (fr1 := ?_) 3 16 false [17, 18, 19] (fun hs0 hj => ?_) ?_ ?_
    rotate_left
    ·have hs0j := hs0
     try simp only [decide_eq_true_eq, Bool.not_eq_true', decide_eq_false_iff_not, Bool.not_eq_false', Int.not_lt, Int.not_le, Int.toNat_natCast, Bool.and_eq_true, Bool.or_eq_true, Bool.and_eq_false_iff, Bool.or_eq_false_iff] at hs0
     refine RL.p T ?_
     refine RL.c fun18 (fun hs => (check sa n c es (hR _) hn hm).mono (fun v H' g => by rw [hc] at g; exact g)) ?_
     rintro _ _ ⟨rfl, e⟩; obtain rfl := e.symm
     refine RL.p T ?_
     exact hj
    ·repeat first | exact Mx.refl | exact Mx.mix | refine Mx.put rfl ?_ | refine Mx.upd rfl ?_ | refine Mx.updl rfl ?_ | refine Mx.fin rfl ?_ | refine Mx.inner rfl ?_ | refine Mx.none ?_
    refine RL.or ?_
    refine RL.nil _ _ _ _ ?_
    refine hK5 _ _ _ ?_
    refine SW.cs (fun hc1 => ?_) (fun hc1 => ?_)
    ·skip
     first
      | (exfalso; first | omega | contradiction)
      | (
       refine SW.seq_k fun K6 hK6 => ?_
       refine SW.region _ _ _ _ ?_
       refine RL.p T ?_
       refine RL.nil _ _ _ _ ?_
       refine hK6 _ _ _ ?_
       refine SW.ret ?_
       refine retQ.rr (H) ?_
       clear hK6 K6 hK5 K5 hK4 K4 hK2 K2 hK1 K1 hK0 K0
       first
         | exact ⟨rfl, rfl⟩
         | (refine ⟨boolE ?_, rfl⟩
            by_cases hz : es.length = 0
            · simp; omega
            · have := hq (by omega); simp; omega)
       )
    ·skip
     first
      | (exfalso; first | omega | contradiction)
      | (
       refine SW.skip ?_
       refine hK4 _ _ _ ?_
       refine SW.seq_k fun K7 hK7 => ?_
       refine SW.region _ _ _ _ ?_
       refine RL.p T ?_
       refine RL.c fun11 (fun hs => (sput sa n c es (hR _) hn hm hb).mono (fun v H' g => by rw [(put_fit hb hc (by omega)).1] at g; dsimp only at g; exact g)) ?_
       rintro _ _ ⟨s1, k1, rfl, e⟩; obtain rfl := e.symm
       refine RL.p T ?_
       refine RL.p T ?_
       refine RL.p T ?_
       refine RL.p T ?_
       refine RL.p T ?_
       refine RL.nil _ _ _ _ ?_
       refine hK7 _ _ _ ?_
       refine SW.seq_k fun K8 hK8 => ?_
       refine SW.seq_k fun K9 hK9 => ?_
       refine SW.region _ _ _ _ ?_
       refine RL.p T ?_
       refine RL.p T ?_
       refine RL.nil _ _ _ _ ?_
       refine hK9 _ _ _ ?_
       refine SW.cs (fun hc2 => ?_) (fun hc2 => ?_)
       ·skip
        first
         | (exfalso; first | omega | contradiction)
         | (
          refine SW.seq_k fun K10 hK10 => ?_
          refine SW.region _ _ _ _ ?_
          refine RL.p T ?_
          refine RL.nil _ _ _ _ ?_
          refine hK10 _ _ _ ?_
          refine SW.ret ?_
          refine retQ.rr (H) ?_
          clear hK10 K10 hK9 K9 hK8 K8 hK7 K7 hK5 K5 hK4 K4 hK2 K2 hK1 K1 hK0 K0
          first
            | exact ⟨rfl, rfl⟩
            | (refine ⟨boolE ?_, rfl⟩
               by_cases hz : es.length = 0
               · simp; omega
               · have := hq (by omega); simp; omega)
          )
       ·skip
        first
         | (exfalso; first | omega | contradiction)
         | (
          refine SW.skip ?_
          refine hK8 _ _ _ ?_
          refine SW.seq_k fun K11 hK11 => ?_
          refine SW.seq_k fun K12 hK12 => ?_
          have hBk := chk_bit hb hc
          have hfit := (put_fit hb hc (by omega)).2.2.2.1
          have hge : (stuffed (es.take kk)).length ≤ (stuffed es).length := by obtain ⟨r, hr⟩ := stuffed_take es kk; rw [hr]; simp
          have htk : stuffed (es.take kk) = (stuffed es).take (stuffed (es.take kk)).length := by obtain ⟨r, hr⟩ := stuffed_take es kk; rw [hr]; simp
          have hq := fun h => stuffed_len hBk h
          refine SW.region _ _ _ _ ?_
          refine RL.p T ?_
          refine RL.p T ?_
          refine RL.p T ?_
          refine RL.nil _ _ _ _ ?_
          refine hK12 _ _ _ ?_
          refine SW.block ?_
          refine SW.loopM (fun frB mm fr ds HH => ∃ (k : Nat) , mm = (stuffed es).length - k ∧ (k ≤ (stuffed es).length ∧ (True)) ∧ FrIs [4, 7, 30, 31, 32, 33, 34, 35, 36, 37, 38, 39] frB fr [(30, .int .i64 k)] ∧ ds = [] ∧ HH = (.row s1 (stuffed es).length k1 5 1 ((stuffed es).map (.int .u8)) :: H)) (n := (stuffed es).length - 0) ?_ ?_
          ·exact ⟨0, rfl, ⟨Nat.zero_le _, trivial⟩, (.cons rfl (.nil (by repeat first | exact Mx.refl | exact Mx.mix | refine Mx.put rfl ?_ | refine Mx.upd rfl ?_ | refine Mx.updl rfl ?_ | refine Mx.fin rfl ?_ | refine Mx.inner rfl ?_ | refine Mx.none ?_))), rfl, rfl⟩
          ·rintro mm fr ds HH ⟨k, rfl, ⟨hk, _⟩, hFr, rfl, eHH⟩
           obtain rfl := eHH.symm
           obtain ⟨frU, rfl⟩ := hFr.eq
           clear hFr
           have hru := stuffed_pre (chk_bit hb hc) (k + 1)
           refine SW.seq_k fun K13 hK13 => ?_
           refine SW.region _ _ _ _ ?_
           refine RL.p T ?_
           refine RL.nil _ _ _ _ ?_
           refine hK13 _ _ _ ?_
           refine SW.seq_k fun K14 hK14 => ?_
           refine SW.cs (fun hc3 => ?_) (fun hc3 => ?_)
           ·skip
            first
             | (exfalso; first | omega | contradiction)
             | (
              refine SW.skip ?_
              refine hK14 _ _ _ ?_
              refine SW.seq_k fun K15 hK15 => ?_
              refine SW.block ?_
              refine SW.seq_k fun K16 hK16 => ?_
              refine SW.region _ _ _ _ ?_
              refine RL.p T ?_
              refine RL.p T ?_
              refine RL.nil _ _ _ _ ?_
              refine hK16 _ _ _ ?_
              refine SW.seq_k fun K17 hK17 => ?_
              refine SW.region _ _ _ _ ?_
              refine RL.p T ?_
              refine RL.p T ?_
              first | refine RL.ar ?_ | refine RL.p T ?_
              refine RL.sl T ?_ (h1 := k + 1)
              refine RL.c fun19 (fun hs => brun _ _ _ ((stuffed es).take (k + 1)) ((Rd.rowh hs (At.head _ _)).pre (k + 1) (by omega)) (by rw [List.length_take]; omega) (by have := (put_fit hb hc (by omega)).2.2.2.1; omega)) ?_
              rintro _ _ ⟨rfl, e⟩; obtain rfl := e.symm
              refine RL.p T ?_
              refine RL.nil _ _ _ _ ?_
              refine hK17 _ _ _ ?_
              refine SW.cs (fun hc4 => ?_) (fun hc4 => ?_)
              ·skip
               first
                | (exfalso; first | omega | contradiction)
                | (
                 refine SW.seq_k fun K18 hK18 => ?_
                 refine SW.region _ _ _ _ ?_
                 refine RL.p T ?_
                 refine RL.nil _ _ _ _ ?_
                 refine hK18 _ _ _ ?_
                 refine SW.ret ?_
                 refine retQ.rr (H) ?_
                 clear hK18 K18 hK17 K17 hK16 K16 hK15 K15 hK14 K14 hK13 K13 hK12 K12 hK11 K11 hK9 K9 hK8 K8 hK7 K7 hK5 K5 hK4 K4 hK2 K2 hK1 K1 hK0 K0
                 first
                   | exact ⟨rfl, rfl⟩
                   | (refine ⟨boolE ?_, rfl⟩
                      by_cases hz : es.length = 0
                      · simp; omega
                      · have := hq (by omega); simp; omega)
                 )
              ·skip
               first
                | (exfalso; first | omega | contradiction)
                | (
                 refine SW.skip ?_
                 refine hK15 _ _ _ ?_
                 refine SW.region _ _ _ _ ?_
                 first | refine RL.ar ?_ | refine RL.p T ?_
                 refine RL.p T ?_
                 refine RL.nil _ _ _ _ ?_
                 exact ⟨(stuffed es).length - (k + 1), (by omega), k + 1, (by rfl), ⟨by omega, trivial⟩, (.cons rfl (.nil (by repeat first | exact Mx.refl | exact Mx.mix | refine Mx.put rfl ?_ | refine Mx.upd rfl ?_ | refine Mx.updl rfl ?_ | refine Mx.fin rfl ?_ | refine Mx.inner rfl ?_ | refine Mx.none ?_))), rfl, rfl⟩
                 )
              )
           ·skip
            first
             | (exfalso; first | omega | contradiction)
             | (
              refine SW.exit ?_
              refine hK11 _ _ _ ?_
              refine SW.seq_k fun K19 hK19 => ?_
              refine SW.region _ _ _ _ ?_
              refine RL.p T ?_
              first | refine RL.cv T ?_ | refine RL.p T ?_
              refine RL.p T ?_
              refine RL.p T ?_
              first | refine RL.ar ?_ | refine RL.p T ?_
              first | refine RL.q (QV.remP rfl rfl rfl (by omega) (by omega)) ?_ | refine RL.q (QV.rem rfl rfl rfl (by omega) rfl) ?_
              refine RL.p T ?_
              refine RL.nil _ _ _ _ ?_
              refine hK19 _ _ _ ?_
              refine SW.seq_k fun K20 hK20 => ?_
              refine SW.region _ _ _ _ ?_
              refine RL.p T ?_
              refine RL.p T ?_
              refine RL.sl T ?_ (h1 := kk)
              refine RL.c fun11 (fun hs => (sput _ _ _ (es.take kk) ((hR _).pre kk hk1) (by rw [List.length_take]; omega) (by omega) (hb.take kk)).mono (fun v H' g => by rw [(put_fit (hb.take kk) (chk_of ((chk_bit hb hc).take) (by rw [List.length_take]; omega)) (by rw [List.length_take]; omega)).1] at g; dsimp only at g; exact g)) ?_
              rintro _ _ ⟨s2, k2, rfl, e⟩; obtain rfl := e.symm
              refine RL.p T ?_
              refine RL.p T ?_
              refine RL.p T ?_
              refine RL.p T ?_
              refine RL.p T ?_
              refine RL.nil _ _ _ _ ?_
              refine hK20 _ _ _ ?_
              refine SW.seq_k fun K21 hK21 => ?_
              refine SW.region _ _ _ _ ?_
              refine RL.p T ?_
              refine RL.p T ?_
              refine RL.p T ?_
              refine RL.join (fr1 := ?_) 5 55 true [56, 57, 58, 59, 60] (fun hs1 hj => ?_) ?_ ?_
              rotate_left
              ·have hs1j := hs1
               try simp only [decide_eq_true_eq, Bool.not_eq_true', decide_eq_false_iff_not, Bool.not_eq_false', Int.not_lt, Int.not_le, Int.toNat_natCast, Bool.and_eq_true, Bool.or_eq_true, Bool.and_eq_false_iff, Bool.or_eq_false_iff] at hs1
               refine RL.p T ?_
               refine RL.p T ?_
               refine RL.p T ?_
               refine RL.p T ?_
               refine RL.p T ?_
               exact hj
              ·repeat first | exact Mx.refl | exact Mx.mix | refine Mx.put rfl ?_ | refine Mx.upd rfl ?_ | refine Mx.updl rfl ?_ | refine Mx.fin rfl ?_ | refine Mx.inner rfl ?_ | refine Mx.none ?_
              refine RL.and ?_
              refine RL.p T ?_
              refine RL.join (fr1 := ?_) 6 62 true [63, 64, 65, 66, 67, 68] (fun hs2 hj => ?_) ?_ ?_
              rotate_left
              ·have hs2j := hs2
               try simp only [decide_eq_true_eq, Bool.not_eq_true', decide_eq_false_iff_not, Bool.not_eq_false', Int.not_lt, Int.not_le, Int.toNat_natCast, Bool.and_eq_true, Bool.or_eq_true, Bool.and_eq_false_iff, Bool.or_eq_false_iff] at hs2
               refine RL.p T ?_
               refine RL.p T ?_
               refine RL.p T ?_
               refine RL.p T ?_
               refine RL.sl T ?_ (h1 := (stuffed (es.take kk)).length)
               refine RL.c fun17 (fun hs => (same _ _ _ _ _ _ (stuffed (es.take kk)) ((stuffed es).take (stuffed (es.take kk)).length) (Rd.rowh hs (At.head _ _)) (((Rd.rowh hs (.tail (At.head _ _))) : Rd w0 _ _ _ k1 1 _).pre _ hge) rfl (by rw [List.length_take]; omega) (by omega) (by omega)).mono (fun v H' g => by rw [decide_eq_true htk] at g; exact g)) ?_
               rintro _ _ ⟨rfl, e⟩; obtain rfl := e.symm
               exact hj
              ·repeat first | exact Mx.refl | exact Mx.mix | refine Mx.put rfl ?_ | refine Mx.upd rfl ?_ | refine Mx.updl rfl ?_ | refine Mx.fin rfl ?_ | refine Mx.inner rfl ?_ | refine Mx.none ?_
              refine RL.and ?_
              refine RL.p T ?_
              refine RL.join (fr1 := ?_) 15 70 true [71, 72, 73, 74, 75, 76, 77, 78, 79, 80, 81, 82, 83, 84, 85] (fun hs3 hj => ?_) ?_ ?_
              rotate_left
              ·have hs3j := hs3
               try simp only [decide_eq_true_eq, Bool.not_eq_true', decide_eq_false_iff_not, Bool.not_eq_false', Int.not_lt, Int.not_le, Int.toNat_natCast, Bool.and_eq_true, Bool.or_eq_true, Bool.and_eq_false_iff, Bool.or_eq_false_iff] at hs3
               refine RL.p T ?_
               refine RL.p T ?_
               refine RL.p T ?_
               refine RL.p T ?_
               refine RL.join (fr1 := ?_) 10 74 false [75, 76, 77, 78, 79, 80, 81, 82, 83, 84] (fun hs4 hj => ?_) ?_ ?_
               rotate_left
               ·have hs4j := hs4
                try simp only [decide_eq_true_eq, Bool.not_eq_true', decide_eq_false_iff_not, Bool.not_eq_false', Int.not_lt, Int.not_le, Int.toNat_natCast, Bool.and_eq_true, Bool.or_eq_true, Bool.and_eq_false_iff, Bool.or_eq_false_iff] at hs4
                refine RL.p T ?_
                refine RL.p T ?_
                refine RL.p T ?_
                refine RL.p T ?_
                refine RL.p T ?_
                refine RL.p T ?_
                first | refine RL.ar ?_ | refine RL.p T ?_
                first | refine RL.q (QV.quoP rfl rfl rfl (by omega) (by omega) (by simp only [hiK]; omega)) ?_ | refine RL.q (QV.quo rfl rfl rfl (by omega) rfl) ?_
                first | refine RL.ar ?_ | refine RL.p T ?_
                refine RL.p T ?_
                exact hj
               ·repeat first | exact Mx.refl | exact Mx.mix | refine Mx.put rfl ?_ | refine Mx.upd rfl ?_ | refine Mx.updl rfl ?_ | refine Mx.fin rfl ?_ | refine Mx.inner rfl ?_ | refine Mx.none ?_
               refine RL.or ?_
               exact hj
              ·repeat first | exact Mx.refl | exact Mx.mix | refine Mx.put rfl ?_ | refine Mx.upd rfl ?_ | refine Mx.updl rfl ?_ | refine Mx.fin rfl ?_ | refine Mx.inner rfl ?_ | refine Mx.none ?_
              refine RL.and ?_
              refine RL.p T ?_
              refine RL.nil _ _ _ _ ?_
              refine hK21 _ _ _ ?_
              refine SW.ret ?_
              refine retQ.rr (H) ?_
              clear hK21 K21 hK20 K20 hK19 K19 hK14 K14 hK13 K13 hK12 K12 hK11 K11 hK9 K9 hK8 K8 hK7 K7 hK5 K5 hK4 K4 hK2 K2 hK1 K1 hK0 K0
              first
                | exact ⟨rfl, rfl⟩
                | (refine ⟨boolE ?_, rfl⟩
                   by_cases hz : es.length = 0
                   · simp; omega
                   · have := hq (by omega); simp; omega)
              )
          )
       )
    )
theorem stuffRuns {w0 : World} {H : List Chunk} (sa : Option Addr) (n c : Nat) (es : List Int) (hR : ∀ H, Rd w0 H sa n c 1 (es.map (.int .u8))) (hn : n = es.length) (hm : n ≤ 140737488351232) (hb : Byte es) (at' : Int) (a0 : 0 ≤ at') (a1 : at' ≤ 65535) : SC Try.prog w0 5 #[.slice sa n c, .int .u16 at'] H (fun v H' => v = .bool true ∧ H' = H) := by
  by_cases h : n ≤ 3000 ∧ chk es = 0
  · have h1 := Int.emod_nonneg at' (show ((n : Int) + 1) ≠ 0 by omega)
    have h2 := Int.emod_lt_of_pos at' (show (0 : Int) < (n : Int) + 1 by omega)
    exact runs_ok sa n c es hR hn hm hb at' a0 a1 (at' % ((n : Int) + 1)).toNat (by omega) (by omega) h.1 h.2
  · exact runs_no sa n c es hR hn hm hb at' (by omega)
end Go.Proofs.Ytilffbgepliamaa.M
