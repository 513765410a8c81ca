import Derived.Test.YtilffbgepliamaaProg
import Derived.Test.YtilffbgepliamaaP3
set_option linter.unusedVariables false
set_option linter.unusedSimpArgs false
namespace Go.Proofs.Ytilffbgepliamaa.M
open Go Go.Sep Go.Proofs
set_option maxRecDepth 10000
set_option maxHeartbeats 2000000
noncomputable def T : Tab Try.prog := ⟨Try.prog.info?, Try.prog.underlying, fun _ _ h => h, fun _ _ h => h⟩
theorem mixed : Try.prog.follows .mixedOrders = true := by kernel_rfl
theorem fun3 : Fun Try.prog 3 := Fun.mk Try.func3 (by kernel_rfl) (by kernel_rfl)
theorem fun4 : Fun Try.prog 4 := Fun.mk Try.func4 (by kernel_rfl) (by kernel_rfl)
theorem fun5 : Fun Try.prog 5 := Fun.mk Try.func5 (by kernel_rfl) (by kernel_rfl)
theorem fun6 : Fun Try.prog 6 := Fun.mk Try.func6 (by kernel_rfl) (by kernel_rfl)
theorem fun7 : Fun Try.prog 7 := Fun.mk Try.func7 (by kernel_rfl) (by kernel_rfl)
theorem fun8 : Fun Try.prog 8 := Fun.mk Try.func8 (by kernel_rfl) (by kernel_rfl)
theorem fun9 : Fun Try.prog 9 := Fun.mk Try.func9 (by kernel_rfl) (by kernel_rfl)
theorem fun10 : Fun Try.prog 10 := Fun.mk Try.func10 (by kernel_rfl) (by kernel_rfl)
theorem fun11 : Fun Try.prog 11 := Fun.mk Try.func11 (by kernel_rfl) (by kernel_rfl)
theorem fun12 : Fun Try.prog 12 := Fun.mk Try.func12 (by kernel_rfl) (by kernel_rfl)
theorem fun13 : Fun Try.prog 13 := Fun.mk Try.func13 (by kernel_rfl) (by kernel_rfl)
theorem fun14 : Fun Try.prog 14 := Fun.mk Try.func14 (by kernel_rfl) (by kernel_rfl)
theorem fun15 : Fun Try.prog 15 := Fun.mk Try.func15 (by kernel_rfl) (by kernel_rfl)
theorem fun16 : Fun Try.prog 16 := Fun.mk Try.func16 (by kernel_rfl) (by kernel_rfl)
theorem fun17 : Fun Try.prog 17 := Fun.mk Try.func17 (by kernel_rfl) (by kernel_rfl)
theorem fun18 : Fun Try.prog 18 := Fun.mk Try.func18 (by kernel_rfl) (by kernel_rfl)
theorem fun19 : Fun Try.prog 19 := Fun.mk Try.func19 (by kernel_rfl) (by kernel_rfl)
theorem fun20 : Fun Try.prog 20 := Fun.mk Try.func20 (by kernel_rfl) (by kernel_rfl)
theorem fun21 : Fun Try.prog 21 := Fun.mk Try.func21 (by kernel_rfl) (by kernel_rfl)
theorem fun22 : Fun Try.prog 22 := Fun.mk Try.func22 (by kernel_rfl) (by kernel_rfl)
theorem fun23 : Fun Try.prog 23 := Fun.mk Try.func23 (by kernel_rfl) (by kernel_rfl)
theorem fun24 : Fun Try.prog 24 := Fun.mk Try.func24 (by kernel_rfl) (by kernel_rfl)
theorem fun25 : Fun Try.prog 25 := Fun.mk Try.func25 (by kernel_rfl) (by kernel_rfl)
theorem fun26 : Fun Try.prog 26 := Fun.mk Try.func26 (by kernel_rfl) (by kernel_rfl)
theorem fun27 : Fun Try.prog 27 := Fun.mk Try.func27 (by kernel_rfl) (by kernel_rfl)
theorem fun28 : Fun Try.prog 28 := Fun.mk Try.func28 (by kernel_rfl) (by kernel_rfl)
theorem fun29 : Fun Try.prog 29 := Fun.mk Try.func29 (by kernel_rfl) (by kernel_rfl)
theorem fun30 : Fun Try.prog 30 := Fun.mk Try.func30 (by kernel_rfl) (by kernel_rfl)
theorem fun31 : Fun Try.prog 31 := Fun.mk Try.func31 (by kernel_rfl) (by kernel_rfl)
theorem fun32 : Fun Try.prog 32 := Fun.mk Try.func32 (by kernel_rfl) (by kernel_rfl)
theorem fun33 : Fun Try.prog 33 := Fun.mk Try.func33 (by kernel_rfl) (by kernel_rfl)
theorem fun34 : Fun Try.prog 34 := Fun.mk Try.func34 (by kernel_rfl) (by kernel_rfl)
theorem fun35 : Fun Try.prog 35 := Fun.mk Try.func35 (by kernel_rfl) (by kernel_rfl)
theorem fun36 : Fun Try.prog 36 := Fun.mk Try.func36 (by kernel_rfl) (by kernel_rfl)
theorem fun37 : Fun Try.prog 37 := Fun.mk Try.func37 (by kernel_rfl) (by kernel_rfl)
theorem check1 {w0 : World} {H : List Chunk} (z : Int) : SC Try.prog w0 30 #[.int .u8 z] H (fun v H' => v = .bool (decide (1 < z)) ∧ H' = H) := by
 refine SC.enter Try.func30 rfl (Nat.le_of_ble_eq_true rfl) ?_
 refine SW.seq_k ?_
 intro K0 hK0
 refine SW.region _ _ _ _ ?_
 refine RL.st ?_
 refine NV.p T ?_
 refine RL.nil _ _ _ _ ?_
 refine hK0 _ _ _ ?_
 refine SW.seq_k ?_
 intro K1 hK1
 refine SW.region _ _ _ _ ?_
 refine RL.st ?_
 refine NV.p T ?_
 refine RL.st ?_
 refine NV.p T ?_
 refine RL.st ?_
 refine NV.p T ?_
 refine RL.nil _ _ _ _ ?_
 refine hK1 _ _ _ ?_
 refine SW.ret ?_
 refine retQ.ret (H' := H) (RVs.tmp (by conv => lhs; whnf) RVs.nil) (fun w hw => Sat.sub (by repeat first | exact List.Sublist.refl _ | apply List.Sublist.cons_cons | apply List.Sublist.cons | exact List.sublist_append_right _ _ | refine List.Sublist.trans ?_ (List.sublist_append_right _ _)) hw) ?_
 clear hK1 K1 hK0 K0
 exact ⟨rfl, rfl⟩
theorem indexBad {w0 : World} {H : List Chunk} (sa : Option Addr) (n c : Nat) (es : List Int) (hR : Rd w0 H sa n c 1 (es.map (.int .u8))) (hn : n = es.length) (hm : n ≤ 140737488351232) : SC Try.prog w0 36 #[.slice sa n c, (.func (.func 30) #[] #[])] H (fun v H' => ∃ z, v = .int .i64 z ∧ H' = H ∧ decide (0 ≤ z) = bad es) := by
 refine SC.enter Try.func36 rfl (Nat.le_of_ble_eq_true rfl) ?_
 refine SW.seq_k ?_
 intro K0 hK0
 refine SW.region _ _ _ _ ?_
 refine RL.st ?_
 refine NV.p T ?_
 refine RL.nil _ _ _ _ ?_
 refine hK0 _ _ _ ?_
 refine SW.seq_k ?_
 intro K1 hK1
 refine SW.seq_k ?_
 intro K2 hK2
 refine SW.region _ _ _ _ ?_
 refine RL.st ?_
 refine NV.p T ?_
 refine RL.st ?_
 refine NV.p T ?_
 refine RL.st ?_
 refine NV.p T ?_
 refine RL.nil _ _ _ _ ?_
 refine hK2 _ _ _ ?_
 refine SW.block ?_
 refine SW.loopM (fun frB mm fr ds HH => ∃ (k : Nat) , mm = n - k ∧ (k ≤ n ∧ (bad (es.take k) = false)) ∧ FrIs [4, 5, 8, 9, 10, 11, 12, 13, 14, 15, 16, 17, 18] frB fr [(8, .int .i64 k)] ∧ ds = [] ∧ HH = H) (n := n - 0) ?_ ?_
 ·exact ⟨0, rfl, ⟨Nat.zero_le _, rfl⟩, (.cons rfl (.nil (by repeat first | exact Mx.refl | exact Mx.mix | refine Mx.put rfl ?_ | refine Mx.upd rfl ?_ | refine Mx.updl rfl ?_ | refine Mx.fin rfl ?_ | refine Mx.inner rfl ?_ | refine Mx.none ?_))), rfl, rfl⟩
 ·rintro mm fr ds HH ⟨k, rfl, ⟨hk, hb⟩, hFr, rfl, eHH⟩
  obtain rfl := eHH.symm
  obtain ⟨frU, rfl⟩ := hFr.eq
  clear hFr
  refine SW.seq_k ?_
  intro K3 hK3
  refine SW.region _ _ _ _ ?_
  refine RL.st ?_
  refine NV.p T ?_
  refine RL.nil _ _ _ _ ?_
  refine hK3 _ _ _ ?_
  refine SW.seq_k ?_
  intro K4 hK4
  refine SW.cond rfl (fun hc0 => ?_) (fun hc0 => ?_)
  ·try simp only [decide_eq_true_eq, decide_eq_false_iff_not, Bool.not_eq_true', Bool.not_eq_false', Int.not_lt, Int.not_le, Int.toNat_natCast] at hc0
   refine SW.skip ?_
   refine hK4 _ _ _ ?_
   refine SW.seq_k ?_
   intro K5 hK5
   refine SW.block ?_
   refine SW.seq_k ?_
   intro K6 hK6
   refine SW.region _ _ _ _ ?_
   refine RL.st ?_
   refine NV.p T ?_
   refine RL.st ?_
   refine NV.p T ?_
   refine RL.nil _ _ _ _ ?_
   refine hK6 _ _ _ ?_
   refine SW.seq_k ?_
   intro K7 hK7
   refine SW.region _ _ _ _ ?_
   refine RL.st ?_
   refine NV.p T ?_
   refine RL.st ?_
   refine NV.p T ?_
   refine RL.st ?_
   refine NV.p T ?_
   refine RL.st ?_
   first
     | refine NV.index_array T rfl rfl rfl rfl rfl (by omega) (by omega) ?_
     | refine NV.index_slice T rfl rfl rfl rfl rfl hR (by omega) (by omega) ?_
   refine RL.st ?_
   refine NV.load_elem T rfl rfl rfl rfl hR (by first | exact map_get _ _ (by omega) | assumption) ?_
   refine RL.st ?_
   refine NV.call rfl rfl rfl fun30 rfl rfl (check1 (es.getD k 0)) ?_
   rintro _ _ ⟨rfl, e⟩; obtain rfl := e.symm
   refine RL.nil _ _ _ _ ?_
   refine hK7 _ _ _ ?_
   refine SW.cond rfl (fun hc1 => ?_) (fun hc1 => ?_)
   ·try simp only [decide_eq_true_eq, decide_eq_false_iff_not, Bool.not_eq_true', Bool.not_eq_false', Int.not_lt, Int.not_le, Int.toNat_natCast] at hc1
    refine SW.seq_k ?_
    intro K8 hK8
    refine SW.region _ _ _ _ ?_
    refine RL.st ?_
    refine NV.p T ?_
    refine RL.st ?_
    refine NV.p T ?_
    refine RL.nil _ _ _ _ ?_
    refine hK8 _ _ _ ?_
    refine SW.ret ?_
    refine retQ.ret (H' := H) (RVs.tmp (by conv => lhs; whnf) RVs.nil) (fun w hw => Sat.sub (by repeat first | exact List.Sublist.refl _ | apply List.Sublist.cons_cons | apply List.Sublist.cons | exact List.sublist_append_right _ _ | refine List.Sublist.trans ?_ (List.sublist_append_right _ _)) hw) ?_
    clear hK8 K8 hK7 K7 hK6 K6 hK5 K5 hK4 K4 hK3 K3 hK2 K2 hK1 K1 hK0 K0
    first
      | exact ⟨_, rfl, rfl, (by rw [bad_get (k := k) (by omega) (by omega)] <;> simp)⟩
      | exact ⟨_, rfl, rfl, (by rw [bad_end (k := k) (by omega) hb]; rfl)⟩
   ·try simp only [decide_eq_true_eq, decide_eq_false_iff_not, Bool.not_eq_true', Bool.not_eq_false', Int.not_lt, Int.not_le, Int.toNat_natCast] at hc1
    refine SW.skip ?_
    refine hK5 _ _ _ ?_
    refine SW.region _ _ _ _ ?_
    refine RL.st ?_
    first | refine NV.arith rfl rfl rfl rfl (by omega) (by omega) ?_ | refine NV.p T ?_
    refine RL.st ?_
    refine NV.p T ?_
    refine RL.nil _ _ _ _ ?_
    exact ⟨n - (k + 1), (by omega), k + 1, (by rfl), ⟨by omega, bad_step (by omega) hb (by omega)⟩, (.cons rfl (.nil (by repeat first | exact Mx.refl | exact Mx.mix | refine Mx.put rfl ?_ | refine Mx.upd rfl ?_ | refine Mx.updl rfl ?_ | refine Mx.fin rfl ?_ | refine Mx.inner rfl ?_ | refine Mx.none ?_))), rfl, rfl⟩
  ·try simp only [decide_eq_true_eq, decide_eq_false_iff_not, Bool.not_eq_true', Bool.not_eq_false', Int.not_lt, Int.not_le, Int.toNat_natCast] at hc0
   refine SW.exit ?_
   refine hK1 _ _ _ ?_
   refine SW.seq_k ?_
   intro K9 hK9
   refine SW.region _ _ _ _ ?_
   refine RL.st ?_
   refine NV.p T ?_
   refine RL.nil _ _ _ _ ?_
   refine hK9 _ _ _ ?_
   refine SW.ret ?_
   refine retQ.ret (H' := H) (RVs.tmp (by conv => lhs; whnf) RVs.nil) (fun w hw => Sat.sub (by repeat first | exact List.Sublist.refl _ | apply List.Sublist.cons_cons | apply List.Sublist.cons | exact List.sublist_append_right _ _ | refine List.Sublist.trans ?_ (List.sublist_append_right _ _)) hw) ?_
   clear hK9 K9 hK4 K4 hK3 K3 hK2 K2 hK1 K1 hK0 K0
   first
     | exact ⟨_, rfl, rfl, (by rw [bad_get (k := k) (by omega) (by omega)] <;> simp)⟩
     | exact ⟨_, rfl, rfl, (by rw [bad_end (k := k) (by omega) hb]; rfl)⟩
theorem hasBad {w0 : World} {H : List Chunk} (sa : Option Addr) (n c : Nat) (es : List Int) (hR : Rd w0 H sa n c 1 (es.map (.int .u8))) (hn : n = es.length) (hm : n ≤ 140737488351232) : SC Try.prog w0 29 #[.slice sa n c, (.func (.func 30) #[] #[])] H (fun v H' => v = .bool (bad es) ∧ H' = H) := by
 refine SC.enter Try.func29 rfl (Nat.le_of_ble_eq_true rfl) ?_
 refine SW.seq_k ?_
 intro K0 hK0
 refine SW.region _ _ _ _ ?_
 refine RL.st ?_
 refine NV.p T ?_
 refine RL.nil _ _ _ _ ?_
 refine hK0 _ _ _ ?_
 refine SW.seq_k ?_
 intro K1 hK1
 refine SW.region _ _ _ _ ?_
 refine RL.st ?_
 refine NV.p T ?_
 refine RL.st ?_
 refine NV.p T ?_
 refine RL.st ?_
 refine NV.call rfl rfl rfl fun36 rfl rfl (indexBad sa n c es hR hn hm) ?_
 rintro _ _ ⟨z, rfl, e, hz⟩; obtain rfl := e.symm
 refine RL.st ?_
 refine NV.p T ?_
 refine RL.st ?_
 refine NV.p T ?_
 refine RL.nil _ _ _ _ ?_
 refine hK1 _ _ _ ?_
 refine SW.ret ?_
 refine retQ.ret (H' := H) (RVs.tmp (by conv => lhs; whnf) RVs.nil) (fun w hw => Sat.sub (by repeat first | exact List.Sublist.refl _ | apply List.Sublist.cons_cons | apply List.Sublist.cons | exact List.sublist_append_right _ _ | refine List.Sublist.trans ?_ (List.sublist_append_right _ _)) hw) ?_
 clear hK1 K1 hK0 K0
 refine ⟨boolE ?_, rfl⟩; rw [← hz]
theorem check {w0 : World} {H : List Chunk} (sa : Option Addr) (n c : Nat) (es : List Int) (hR : Rd w0 H sa n c 1 (es.map (.int .u8))) (hn : n = es.length) (hm : n ≤ 140737488351232) : SC Try.prog w0 18 #[.slice sa n c] H (fun v H' => v = .int .i64 (chk es) ∧ H' = H) := by
 refine SC.enter Try.func18 rfl (Nat.le_of_ble_eq_true rfl) ?_
 refine SW.seq_k ?_
 intro K0 hK0
 refine SW.region _ _ _ _ ?_
 refine RL.st ?_
 refine NV.p T ?_
 refine RL.nil _ _ _ _ ?_
 refine hK0 _ _ _ ?_
 refine SW.seq_k ?_
 intro K1 hK1
 refine SW.seq_k ?_
 intro K2 hK2
 refine SW.region _ _ _ _ ?_
 refine RL.st ?_
 refine NV.p T ?_
 refine RL.st ?_
 refine NV.p T ?_
 refine RL.st ?_
 refine NV.p T ?_
 refine RL.st ?_
 refine NV.p T ?_
 refine RL.split 6 rfl (fun hs0 => ?_) (fun hs0 => ?_)
 ·try simp only [decide_eq_true_eq, decide_eq_false_iff_not, Bool.not_eq_true', Bool.not_eq_false', Int.not_lt, Int.not_le, Int.toNat_natCast] at hs0
  refine RL.guard_no rfl rfl rfl ?_
  refine RL.guard_no rfl rfl rfl ?_
  refine RL.st ?_
  refine NV.p T ?_
  refine RL.nil _ _ _ _ ?_
  refine hK2 _ _ _ ?_
  refine SW.cond_t rfl ?_
  refine SW.seq_k ?_
  intro K3 hK3
  refine SW.region _ _ _ _ ?_
  refine RL.st ?_
  refine NV.p T ?_
  refine RL.nil _ _ _ _ ?_
  refine hK3 _ _ _ ?_
  refine SW.ret ?_
  refine retQ.ret (H' := H) (RVs.tmp (by conv => lhs; whnf) RVs.nil) (fun w hw => Sat.sub (by repeat first | exact List.Sublist.refl _ | apply List.Sublist.cons_cons | apply List.Sublist.cons | exact List.sublist_append_right _ _ | refine List.Sublist.trans ?_ (List.sublist_append_right _ _)) hw) ?_
  clear hK3 K3 hK2 K2 hK1 K1 hK0 K0
  refine ⟨intE ?_, rfl⟩; first | (rw [chk_long (by omega)]; done) | (rw [chk_bad (by simpa using hc0)]; done) | (rw [chk_ok (by omega) (by simpa using hc0)]; done)
 ·try simp only [decide_eq_true_eq, decide_eq_false_iff_not, Bool.not_eq_true', Bool.not_eq_false', Int.not_lt, Int.not_le, Int.toNat_natCast] at hs0
  refine RL.st ?_
  refine NV.p T ?_
  refine RL.st ?_
  refine NV.call rfl rfl rfl fun29 rfl rfl (hasBad sa n c es hR hn hm) ?_
  rintro _ _ ⟨rfl, e⟩; obtain rfl := e.symm
  refine RL.st ?_
  refine NV.p T ?_
  refine RL.nil _ _ _ _ ?_
  refine hK2 _ _ _ ?_
  refine SW.cond rfl (fun hc0 => ?_) (fun hc0 => ?_)
  ·try simp only [decide_eq_true_eq, decide_eq_false_iff_not, Bool.not_eq_true', Bool.not_eq_false', Int.not_lt, Int.not_le, Int.toNat_natCast] at hc0
   refine SW.seq_k ?_
   intro K4 hK4
   refine SW.region _ _ _ _ ?_
   refine RL.st ?_
   refine NV.p T ?_
   refine RL.nil _ _ _ _ ?_
   refine hK4 _ _ _ ?_
   refine SW.ret ?_
   refine retQ.ret (H' := H) (RVs.tmp (by conv => lhs; whnf) RVs.nil) (fun w hw => Sat.sub (by repeat first | exact List.Sublist.refl _ | apply List.Sublist.cons_cons | apply List.Sublist.cons | exact List.sublist_append_right _ _ | refine List.Sublist.trans ?_ (List.sublist_append_right _ _)) hw) ?_
   clear hK4 K4 hK2 K2 hK1 K1 hK0 K0
   refine ⟨intE ?_, rfl⟩; first | (rw [chk_long (by omega)]; done) | (rw [chk_bad (by simpa using hc0)]; done) | (rw [chk_ok (by omega) (by simpa using hc0)]; done)
  ·try simp only [decide_eq_true_eq, decide_eq_false_iff_not, Bool.not_eq_true', Bool.not_eq_false', Int.not_lt, Int.not_le, Int.toNat_natCast] at hc0
   refine SW.skip ?_
   refine hK1 _ _ _ ?_
   refine SW.seq_k ?_
   intro K5 hK5
   refine SW.region _ _ _ _ ?_
   refine RL.st ?_
   refine NV.p T ?_
   refine RL.nil _ _ _ _ ?_
   refine hK5 _ _ _ ?_
   refine SW.ret ?_
   refine retQ.ret (H' := H) (RVs.tmp (by conv => lhs; whnf) RVs.nil) (fun w hw => Sat.sub (by repeat first | exact List.Sublist.refl _ | apply List.Sublist.cons_cons | apply List.Sublist.cons | exact List.sublist_append_right _ _ | refine List.Sublist.trans ?_ (List.sublist_append_right _ _)) hw) ?_
   clear hK5 K5 hK2 K2 hK1 K1 hK0 K0
   refine ⟨intE ?_, rfl⟩; first | (rw [chk_long (by omega)]; done) | (rw [chk_bad (by simpa using hc0)]; done) | (rw [chk_ok (by omega) (by simpa using hc0)]; done)
theorem rcheck {w0 : World} {H : List Chunk} (sa : Option Addr) (n c : Nat) (es : List Int) (hR : Rd w0 H sa n c 1 (es.map (.int .u8))) (hn : n = es.length) (hm : n ≤ 140737488351232) : SC Try.prog w0 25 #[.slice sa n c] H (fun v H' => v = .int .i64 (chk es) ∧ H' = H) := by
 refine SC.enter Try.func25 rfl (Nat.le_of_ble_eq_true rfl) ?_
 refine SW.seq_k ?_
 intro K0 hK0
 refine SW.region _ _ _ _ ?_
 refine RL.st ?_
 refine NV.p T ?_
 refine RL.nil _ _ _ _ ?_
 refine hK0 _ _ _ ?_
 refine SW.seq_k ?_
 intro K1 hK1
 refine SW.seq_k ?_
 intro K2 hK2
 refine SW.region _ _ _ _ ?_
 refine RL.st ?_
 refine NV.p T ?_
 refine RL.st ?_
 refine NV.p T ?_
 refine RL.st ?_
 refine NV.p T ?_
 refine RL.nil _ _ _ _ ?_
 refine hK2 _ _ _ ?_
 refine SW.cond rfl (fun hc0 => ?_) (fun hc0 => ?_)
 ·try simp only [decide_eq_true_eq, decide_eq_false_iff_not, Bool.not_eq_true', Bool.not_eq_false', Int.not_lt, Int.not_le, Int.toNat_natCast] at hc0
  refine SW.seq_k ?_
  intro K3 hK3
  refine SW.region _ _ _ _ ?_
  refine RL.st ?_
  refine NV.p T ?_
  refine RL.nil _ _ _ _ ?_
  refine hK3 _ _ _ ?_
  refine SW.ret ?_
  refine retQ.ret (H' := H) (RVs.tmp (by conv => lhs; whnf) RVs.nil) (fun w hw => Sat.sub (by repeat first | exact List.Sublist.refl _ | apply List.Sublist.cons_cons | apply List.Sublist.cons | exact List.sublist_append_right _ _ | refine List.Sublist.trans ?_ (List.sublist_append_right _ _)) hw) ?_
  clear hK3 K3 hK2 K2 hK1 K1 hK0 K0
  refine ⟨intE ?_, rfl⟩; first | (rw [chk_long (by omega)]; done) | (rw [chk_bad (bad_get (k := k) (by omega) (by omega))]; done) | (rw [chk_ok (by omega) (bad_end (k := k) (by omega) hb)]; done)
 ·try simp only [decide_eq_true_eq, decide_eq_false_iff_not, Bool.not_eq_true', Bool.not_eq_false', Int.not_lt, Int.not_le, Int.toNat_natCast] at hc0
  refine SW.skip ?_
  refine hK1 _ _ _ ?_
  refine SW.seq_k ?_
  intro K4 hK4
  refine SW.seq_k ?_
  intro K5 hK5
  refine SW.region _ _ _ _ ?_
  refine RL.st ?_
  refine NV.p T ?_
  refine RL.st ?_
  refine NV.p T ?_
  refine RL.st ?_
  refine NV.p T ?_
  refine RL.nil _ _ _ _ ?_
  refine hK5 _ _ _ ?_
  refine SW.block ?_
  refine SW.loopM (fun frB mm fr ds HH => ∃ (k : Nat) , mm = n - k ∧ (k ≤ n ∧ (bad (es.take k) = false)) ∧ FrIs [2, 4, 10, 11, 12, 13, 14, 15, 16] frB fr [(10, .int .i64 k)] ∧ ds = [] ∧ HH = H) (n := n - 0) ?_ ?_
  ·exact ⟨0, rfl, ⟨Nat.zero_le _, rfl⟩, (.cons rfl (.nil (by repeat first | exact Mx.refl | exact Mx.mix | refine Mx.put rfl ?_ | refine Mx.upd rfl ?_ | refine Mx.updl rfl ?_ | refine Mx.fin rfl ?_ | refine Mx.inner rfl ?_ | refine Mx.none ?_))), rfl, rfl⟩
  ·rintro mm fr ds HH ⟨k, rfl, ⟨hk, hb⟩, hFr, rfl, eHH⟩
   obtain rfl := eHH.symm
   obtain ⟨frU, rfl⟩ := hFr.eq
   clear hFr
   refine SW.seq_k ?_
   intro K6 hK6
   refine SW.region _ _ _ _ ?_
   refine RL.st ?_
   refine NV.p T ?_
   refine RL.nil _ _ _ _ ?_
   refine hK6 _ _ _ ?_
   refine SW.seq_k ?_
   intro K7 hK7
   refine SW.cond rfl (fun hc1 => ?_) (fun hc1 => ?_)
   ·try simp only [decide_eq_true_eq, decide_eq_false_iff_not, Bool.not_eq_true', Bool.not_eq_false', Int.not_lt, Int.not_le, Int.toNat_natCast] at hc1
    refine SW.skip ?_
    refine hK7 _ _ _ ?_
    refine SW.seq_k ?_
    intro K8 hK8
    refine SW.block ?_
    refine SW.seq_k ?_
    intro K9 hK9
    refine SW.region _ _ _ _ ?_
    refine RL.st ?_
    first
      | refine NV.index_array T rfl rfl rfl rfl rfl (by omega) (by omega) ?_
      | refine NV.index_slice T rfl rfl rfl rfl rfl hR (by omega) (by omega) ?_
    refine RL.st ?_
    refine NV.load_elem T rfl rfl rfl rfl hR (by first | exact map_get _ _ (by omega) | assumption) ?_
    refine RL.st ?_
    refine NV.p T ?_
    refine RL.nil _ _ _ _ ?_
    refine hK9 _ _ _ ?_
    refine SW.seq_k ?_
    intro K10 hK10
    refine SW.region _ _ _ _ ?_
    refine RL.st ?_
    refine NV.p T ?_
    refine RL.st ?_
    refine NV.p T ?_
    refine RL.nil _ _ _ _ ?_
    refine hK10 _ _ _ ?_
    refine SW.cond rfl (fun hc2 => ?_) (fun hc2 => ?_)
    ·try simp only [decide_eq_true_eq, decide_eq_false_iff_not, Bool.not_eq_true', Bool.not_eq_false', Int.not_lt, Int.not_le, Int.toNat_natCast] at hc2
     refine SW.seq_k ?_
     intro K11 hK11
     refine SW.region _ _ _ _ ?_
     refine RL.st ?_
     refine NV.p T ?_
     refine RL.nil _ _ _ _ ?_
     refine hK11 _ _ _ ?_
     refine SW.ret ?_
     refine retQ.ret (H' := H) (RVs.tmp (by conv => lhs; whnf) RVs.nil) (fun w hw => Sat.sub (by repeat first | exact List.Sublist.refl _ | apply List.Sublist.cons_cons | apply List.Sublist.cons | exact List.sublist_append_right _ _ | refine List.Sublist.trans ?_ (List.sublist_append_right _ _)) hw) ?_
     clear hK11 K11 hK10 K10 hK9 K9 hK8 K8 hK7 K7 hK6 K6 hK5 K5 hK4 K4 hK2 K2 hK1 K1 hK0 K0
     refine ⟨intE ?_, rfl⟩; first | (rw [chk_long (by omega)]; done) | (rw [chk_bad (bad_get (k := k) (by omega) (by omega))]; done) | (rw [chk_ok (by omega) (bad_end (k := k) (by omega) hb)]; done)
    ·try simp only [decide_eq_true_eq, decide_eq_false_iff_not, Bool.not_eq_true', Bool.not_eq_false', Int.not_lt, Int.not_le, Int.toNat_natCast] at hc2
     refine SW.skip ?_
     refine hK8 _ _ _ ?_
     refine SW.region _ _ _ _ ?_
     refine RL.st ?_
     first | refine NV.arith rfl rfl rfl rfl (by omega) (by omega) ?_ | refine NV.p T ?_
     refine RL.st ?_
     refine NV.p T ?_
     refine RL.nil _ _ _ _ ?_
     exact ⟨n - (k + 1), (by omega), k + 1, (by rfl), ⟨by omega, bad_step (by omega) hb (by omega)⟩, (.cons rfl (.nil (by repeat first | exact Mx.refl | exact Mx.mix | refine Mx.put rfl ?_ | refine Mx.upd rfl ?_ | refine Mx.updl rfl ?_ | refine Mx.fin rfl ?_ | refine Mx.inner rfl ?_ | refine Mx.none ?_))), rfl, rfl⟩
   ·try simp only [decide_eq_true_eq, decide_eq_false_iff_not, Bool.not_eq_true', Bool.not_eq_false', Int.not_lt, Int.not_le, Int.toNat_natCast] at hc1
    refine SW.exit ?_
    refine hK4 _ _ _ ?_
    refine SW.seq_k ?_
    intro K12 hK12
    refine SW.region _ _ _ _ ?_
    refine RL.st ?_
    refine NV.p T ?_
    refine RL.nil _ _ _ _ ?_
    refine hK12 _ _ _ ?_
    refine SW.ret ?_
    refine retQ.ret (H' := H) (RVs.tmp (by conv => lhs; whnf) RVs.nil) (fun w hw => Sat.sub (by repeat first | exact List.Sublist.refl _ | apply List.Sublist.cons_cons | apply List.Sublist.cons | exact List.sublist_append_right _ _ | refine List.Sublist.trans ?_ (List.sublist_append_right _ _)) hw) ?_
    clear hK12 K12 hK7 K7 hK6 K6 hK5 K5 hK4 K4 hK2 K2 hK1 K1 hK0 K0
    refine ⟨intE ?_, rfl⟩; first | (rw [chk_long (by omega)]; done) | (rw [chk_bad (bad_get (k := k) (by omega) (by omega))]; done) | (rw [chk_ok (by omega) (bad_end (k := k) (by omega) hb)]; done)
theorem same {w0 : World} {H : List Chunk} (sa sb : Option Addr) (n c nb cb : Nat) (es fs : List Int) (hR : Rd w0 H sa n c 1 (es.map (.int .u8))) (hS : Rd w0 H sb nb cb 1 (fs.map (.int .u8))) (hn : n = es.length) (hm : nb = fs.length) (hm1 : n ≤ 140737488351232) (hm2 : nb ≤ 140737488351232) : SC Try.prog w0 17 #[.slice sa n c, .slice sb nb cb] H (fun v H' => v = .bool (decide (es = fs)) ∧ H' = H) := by
 refine SC.enter Try.func17 rfl (Nat.le_of_ble_eq_true rfl) ?_
 refine SW.seq_k ?_
 intro K0 hK0
 refine SW.region _ _ _ _ ?_
 refine RL.st ?_
 refine NV.p T ?_
 refine RL.nil _ _ _ _ ?_
 refine hK0 _ _ _ ?_
 refine SW.seq_k ?_
 intro K1 hK1
 refine SW.seq_k ?_
 intro K2 hK2
 refine SW.region _ _ _ _ ?_
 refine RL.st ?_
 refine NV.p T ?_
 refine RL.st ?_
 refine NV.p T ?_
 refine RL.st ?_
 refine NV.p T ?_
 refine RL.st ?_
 refine NV.p T ?_
 refine RL.st ?_
 refine NV.p T ?_
 refine RL.nil _ _ _ _ ?_
 refine hK2 _ _ _ ?_
 refine SW.cond rfl (fun hc0 => ?_) (fun hc0 => ?_)
 ·try simp only [decide_eq_true_eq, decide_eq_false_iff_not, Bool.not_eq_true', Bool.not_eq_false', Int.not_lt, Int.not_le, Int.toNat_natCast] at hc0
  refine SW.seq_k ?_
  intro K3 hK3
  refine SW.region _ _ _ _ ?_
  refine RL.st ?_
  refine NV.p T ?_
  refine RL.nil _ _ _ _ ?_
  refine hK3 _ _ _ ?_
  refine SW.ret ?_
  refine retQ.ret (H' := H) (RVs.tmp (by conv => lhs; whnf) RVs.nil) (fun w hw => Sat.sub (by repeat first | exact List.Sublist.refl _ | apply List.Sublist.cons_cons | apply List.Sublist.cons | exact List.sublist_append_right _ _ | refine List.Sublist.trans ?_ (List.sublist_append_right _ _)) hw) ?_
  clear hK3 K3 hK2 K2 hK1 K1 hK0 K0
  refine ⟨boolE ?_, rfl⟩; first | (rw [same_len (by omega)]; done) | (rw [same_ne (k := k) (by omega)]; done) | (rw [same_end (k := k) (by omega) (by omega) hb]; done)
 ·try simp only [decide_eq_true_eq, decide_eq_false_iff_not, Bool.not_eq_true', Bool.not_eq_false', Int.not_lt, Int.not_le, Int.toNat_natCast] at hc0
  refine SW.skip ?_
  refine hK1 _ _ _ ?_
  refine SW.seq_k ?_
  intro K4 hK4
  refine SW.seq_k ?_
  intro K5 hK5
  refine SW.region _ _ _ _ ?_
  refine RL.st ?_
  refine NV.p T ?_
  refine RL.st ?_
  refine NV.p T ?_
  refine RL.st ?_
  refine NV.p T ?_
  refine RL.nil _ _ _ _ ?_
  refine hK5 _ _ _ ?_
  refine SW.block ?_
  refine SW.loopM (fun frB mm fr ds HH => ∃ (k : Nat) , mm = n - k ∧ (k ≤ n ∧ (es.take k = fs.take k)) ∧ FrIs [4, 5, 13, 14, 15, 16, 17, 18, 19, 20, 21, 22, 23, 24, 25] frB fr [(13, .int .i64 k)] ∧ ds = [] ∧ HH = H) (n := n - 0) ?_ ?_
  ·exact ⟨0, rfl, ⟨Nat.zero_le _, rfl⟩, (.cons rfl (.nil (by repeat first | exact Mx.refl | exact Mx.mix | refine Mx.put rfl ?_ | refine Mx.upd rfl ?_ | refine Mx.updl rfl ?_ | refine Mx.fin rfl ?_ | refine Mx.inner rfl ?_ | refine Mx.none ?_))), rfl, rfl⟩
  ·rintro mm fr ds HH ⟨k, rfl, ⟨hk, hb⟩, hFr, rfl, eHH⟩
   obtain rfl := eHH.symm
   obtain ⟨frU, rfl⟩ := hFr.eq
   clear hFr
   refine SW.seq_k ?_
   intro K6 hK6
   refine SW.region _ _ _ _ ?_
   refine RL.st ?_
   refine NV.p T ?_
   refine RL.nil _ _ _ _ ?_
   refine hK6 _ _ _ ?_
   refine SW.seq_k ?_
   intro K7 hK7
   refine SW.cond rfl (fun hc1 => ?_) (fun hc1 => ?_)
   ·try simp only [decide_eq_true_eq, decide_eq_false_iff_not, Bool.not_eq_true', Bool.not_eq_false', Int.not_lt, Int.not_le, Int.toNat_natCast] at hc1
    refine SW.skip ?_
    refine hK7 _ _ _ ?_
    refine SW.seq_k ?_
    intro K8 hK8
    refine SW.block ?_
    refine SW.seq_k ?_
    intro K9 hK9
    refine SW.region _ _ _ _ ?_
    refine RL.st ?_
    refine NV.p T ?_
    refine RL.st ?_
    refine NV.p T ?_
    refine RL.nil _ _ _ _ ?_
    refine hK9 _ _ _ ?_
    refine SW.seq_k ?_
    intro K10 hK10
    refine SW.draw [(16, 0), (17, 1), (18, 2), (19, 3), (20, 4), (21, 5), (22, 6), (23, 7), (24, 8)] [[], [], [0, 1], [2, 0, 1], [], [], [4, 5], [6, 4, 5], [3, 2, 0, 1, 7, 6, 4, 5]] mixed (by kernel_rfl) (by kernel_rfl) ?_
    refine RD.q rfl rfl (Gd.none rfl) (pev_sound T (by conv => lhs; whnf; arg 1; whnf)) ?_
    refine RD.q rfl rfl (Gd.none rfl) (pev_sound T (by conv => lhs; whnf; arg 1; whnf)) ?_
    refine RD.q rfl rfl (Gd.none rfl) (by first | exact QV.indexAddr_array T rfl rfl rfl rfl rfl (by omega) (by omega) | exact QV.indexAddr_slice T rfl rfl rfl rfl rfl (Rd.some (by first | exact hR | exact hS) (by omega)) (by omega) (by omega)) ?_
    refine RD.q rfl rfl (Gd.none rfl) (by first | exact QV.load_var1 T rfl rfl rfl rfl (by repeat first | exact At.head _ _ | assumption | exact At.put (by assumption) _ | apply At.tail | apply At.app) rfl | exact QV.load_varN T rfl rfl rfl rfl rfl (by repeat first | exact At.head _ _ | assumption | exact At.put (by assumption) _ | apply At.tail | apply At.app) (by exact (rfl : _ = [_])) rfl | exact QV.load_elem T rfl rfl rfl rfl (by first | exact hR | exact hS) (by first | exact map_get _ _ (by omega) | assumption)) ?_
    refine RD.q rfl rfl (Gd.none rfl) (pev_sound T (by conv => lhs; whnf; arg 1; whnf)) ?_
    refine RD.q rfl rfl (Gd.none rfl) (pev_sound T (by conv => lhs; whnf; arg 1; whnf)) ?_
    refine RD.q rfl rfl (Gd.none rfl) (by first | exact QV.indexAddr_array T rfl rfl rfl rfl rfl (by omega) (by omega) | exact QV.indexAddr_slice T rfl rfl rfl rfl rfl (Rd.some (by first | exact hR | exact hS) (by omega)) (by omega) (by omega)) ?_
    refine RD.q rfl rfl (Gd.none rfl) (by first | exact QV.load_var1 T rfl rfl rfl rfl (by repeat first | exact At.head _ _ | assumption | exact At.put (by assumption) _ | apply At.tail | apply At.app) rfl | exact QV.load_varN T rfl rfl rfl rfl rfl (by repeat first | exact At.head _ _ | assumption | exact At.put (by assumption) _ | apply At.tail | apply At.app) (by exact (rfl : _ = [_])) rfl | exact QV.load_elem T rfl rfl rfl rfl (by first | exact hR | exact hS) (by first | exact map_get _ _ (by omega) | assumption)) ?_
    refine RD.q rfl rfl (Gd.none rfl) (pev_sound T (by conv => lhs; whnf; arg 1; whnf)) ?_
    refine RD.k rfl rfl ?_
    refine hK10 _ _ _ ?_
    refine SW.cond rfl (fun hc2 => ?_) (fun hc2 => ?_)
    ·try simp only [decide_eq_true_eq, decide_eq_false_iff_not, Bool.not_eq_true', Bool.not_eq_false', Int.not_lt, Int.not_le, Int.toNat_natCast] at hc2
     refine SW.seq_k ?_
     intro K11 hK11
     refine SW.region _ _ _ _ ?_
     refine RL.st ?_
     refine NV.p T ?_
     refine RL.nil _ _ _ _ ?_
     refine hK11 _ _ _ ?_
     refine SW.ret ?_
     refine retQ.ret (H' := H) (RVs.tmp (by conv => lhs; whnf) RVs.nil) (fun w hw => Sat.sub (by repeat first | exact List.Sublist.refl _ | apply List.Sublist.cons_cons | apply List.Sublist.cons | exact List.sublist_append_right _ _ | refine List.Sublist.trans ?_ (List.sublist_append_right _ _)) hw) ?_
     clear hK11 K11 hK10 K10 hK9 K9 hK8 K8 hK7 K7 hK6 K6 hK5 K5 hK4 K4 hK2 K2 hK1 K1 hK0 K0
     refine ⟨boolE ?_, rfl⟩; first | (rw [same_len (by omega)]; done) | (rw [same_ne (k := k) (by omega)]; done) | (rw [same_end (k := k) (by omega) (by omega) hb]; done)
    ·try simp only [decide_eq_true_eq, decide_eq_false_iff_not, Bool.not_eq_true', Bool.not_eq_false', Int.not_lt, Int.not_le, Int.toNat_natCast] at hc2
     refine SW.skip ?_
     refine hK8 _ _ _ ?_
     refine SW.region _ _ _ _ ?_
     refine RL.st ?_
     first | refine NV.arith rfl rfl rfl rfl (by omega) (by omega) ?_ | refine NV.p T ?_
     refine RL.st ?_
     refine NV.p T ?_
     refine RL.nil _ _ _ _ ?_
     exact ⟨n - (k + 1), (by omega), k + 1, (by rfl), ⟨by omega, same_step (by omega) (by omega) hb (by omega)⟩, (.cons rfl (.nil (by repeat first | exact Mx.refl | exact Mx.mix | refine Mx.put rfl ?_ | refine Mx.upd rfl ?_ | refine Mx.updl rfl ?_ | refine Mx.fin rfl ?_ | refine Mx.inner rfl ?_ | refine Mx.none ?_))), rfl, rfl⟩
   ·try simp only [decide_eq_true_eq, decide_eq_false_iff_not, Bool.not_eq_true', Bool.not_eq_false', Int.not_lt, Int.not_le, Int.toNat_natCast] at hc1
    refine SW.exit ?_
    refine hK4 _ _ _ ?_
    refine SW.seq_k ?_
    intro K12 hK12
    refine SW.region _ _ _ _ ?_
    refine RL.st ?_
    refine NV.p T ?_
    refine RL.nil _ _ _ _ ?_
    refine hK12 _ _ _ ?_
    refine SW.ret ?_
    refine retQ.ret (H' := H) (RVs.tmp (by conv => lhs; whnf) RVs.nil) (fun w hw => Sat.sub (by repeat first | exact List.Sublist.refl _ | apply List.Sublist.cons_cons | apply List.Sublist.cons | exact List.sublist_append_right _ _ | refine List.Sublist.trans ?_ (List.sublist_append_right _ _)) hw) ?_
    clear hK12 K12 hK7 K7 hK6 K6 hK5 K5 hK4 K4 hK2 K2 hK1 K1 hK0 K0
    refine ⟨boolE ?_, rfl⟩; first | (rw [same_len (by omega)]; done) | (rw [same_ne (k := k) (by omega)]; done) | (rw [same_end (k := k) (by omega) (by omega) hb]; done)
theorem sfull {w0 : World} {H : List Chunk} (b : Nat) (last run : Int) (kk : Chunk → List Chunk) (hat : At H (.var b 40 [.int .u8 last, .int .i64 run]) kk) : SC Try.prog w0 23 #[.pointer (some ⟨b, 0, none⟩)] H (fun v H' => v = .bool (decide (run = 5)) ∧ H' = H) := by
 refine SC.enter Try.func23 rfl (Nat.le_of_ble_eq_true rfl) ?_
 refine SW.seq_k ?_
 intro K0 hK0
 refine SW.region _ _ _ _ ?_
 refine RL.st ?_
 refine NV.p T ?_
 refine RL.nil _ _ _ _ ?_
 refine hK0 _ _ _ ?_
 refine SW.seq_k ?_
 intro K1 hK1
 refine SW.region _ _ _ _ ?_
 refine RL.st ?_
 refine NV.p T ?_
 refine RL.st ?_
 refine NV.p T ?_
 refine RL.st ?_
 refine NV.p T ?_
 refine RL.st ?_
 first
   | refine NV.lv1 T ?_
   | refine NV.load_elem T rfl rfl rfl rfl (by assumption) (by first | exact map_get _ _ (by omega) | assumption) ?_
 refine RL.st ?_
 refine NV.p T ?_
 refine RL.st ?_
 refine NV.p T ?_
 refine RL.nil _ _ _ _ ?_
 refine hK1 _ _ _ ?_
 refine SW.ret ?_
 refine retQ.ret (H' := H) (RVs.tmp (by conv => lhs; whnf) RVs.nil) (fun w hw => Sat.sub (by repeat first | exact List.Sublist.refl _ | apply List.Sublist.cons_cons | apply List.Sublist.cons | exact List.sublist_append_right _ _ | refine List.Sublist.trans ?_ (List.sublist_append_right _ _)) hw) ?_
 clear hK1 K1 hK0 K0
 exact ⟨rfl, rfl⟩
theorem ssee {w0 : World} {H : List Chunk} (b : Nat) (last run z : Int) (r0 : 0 ≤ run) (r1 : run ≤ 65536) (kk : Chunk → List Chunk) (hat : At H (.var b 40 [.int .u8 last, .int .i64 run]) kk) : SC Try.prog w0 24 #[.pointer (some ⟨b, 0, none⟩), .int .u8 z] H (fun v H' => H' = kk (.var b 40 [.int .u8 z, .int .i64 (nxt last run z)])) := by
 refine SC.enter Try.func24 rfl (Nat.le_of_ble_eq_true rfl) ?_
 refine SW.seq_k ?_
 intro K0 hK0
 refine SW.seq_k ?_
 intro K1 hK1
 refine SW.region _ _ _ _ ?_
 refine RL.st ?_
 refine NV.p T ?_
 refine RL.st ?_
 refine NV.p T ?_
 refine RL.st ?_
 refine NV.p T ?_
 refine RL.st ?_
 first
   | refine NV.lv1 T ?_
   | refine NV.load_elem T rfl rfl rfl rfl (by assumption) (by first | exact map_get _ _ (by omega) | assumption) ?_
 refine RL.st ?_
 refine NV.p T ?_
 refine RL.st ?_
 refine NV.p T ?_
 refine RL.split 9 rfl (fun hs0 => ?_) (fun hs0 => ?_)
 ·try simp only [decide_eq_true_eq, decide_eq_false_iff_not, Bool.not_eq_true', Bool.not_eq_false', Int.not_lt, Int.not_le, Int.toNat_natCast] at hs0
  first
   | (exfalso; clear hK1 K1; clear hK0 K0; first | omega | contradiction)
   | (
    refine RL.st ?_
    refine NV.p T ?_
    refine RL.st ?_
    refine NV.p T ?_
    refine RL.st ?_
    refine NV.p T ?_
    refine RL.st ?_
    first
      | refine NV.lv1 T ?_
      | refine NV.load_elem T rfl rfl rfl rfl (by assumption) (by first | exact map_get _ _ (by omega) | assumption) ?_
    refine RL.st ?_
    refine NV.p T ?_
    refine RL.st ?_
    refine NV.p T ?_
    refine RL.st ?_
    refine NV.p T ?_
    refine RL.nil _ _ _ _ ?_
    refine hK1 _ _ _ ?_
    refine SW.cond rfl (fun hc0 => ?_) (fun hc0 => ?_)
    ·try simp only [decide_eq_true_eq, decide_eq_false_iff_not, Bool.not_eq_true', Bool.not_eq_false', Int.not_lt, Int.not_le, Int.toNat_natCast] at hc0
     first
      | (exfalso; clear hK1 K1; clear hK0 K0; first | omega | contradiction)
      | (
       refine SW.seq_k ?_
       intro K2 hK2
       refine SW.region _ _ _ _ ?_
       refine RL.st ?_
       refine NV.p T ?_
       refine RL.st ?_
       refine NV.p T ?_
       refine RL.st ?_
       refine NV.p T ?_
       refine RL.st ?_
       first
         | refine NV.lv1 T ?_
         | refine NV.load_elem T rfl rfl rfl rfl (by assumption) (by first | exact map_get _ _ (by omega) | assumption) ?_
       refine RL.st ?_
       first | refine NV.arith rfl rfl rfl rfl (by omega) (by omega) ?_ | refine NV.p T ?_
       refine RL.st ?_
       refine NV.p T ?_
       refine RL.st ?_
       refine NV.p T ?_
       refine RL.st ?_
       first
         | refine NV.store_var1 T rfl rfl rfl rfl (by conv => lhs; whnf) rfl (by repeat first | exact At.head _ _ | assumption | exact At.put (by assumption) _ | apply At.tail | apply At.app) rfl rfl ?_
         | refine NV.store_var T rfl rfl rfl (by exact (rfl : _ = [_])) rfl rfl (by repeat first | exact At.head _ _ | assumption | exact At.put (by assumption) _ | apply At.tail | apply At.app) (Nat.le_of_ble_eq_true rfl) rfl ?_
         | refine NV.store_elem T rfl rfl rfl rfl (by conv => lhs; whnf) rfl (by repeat first | exact At.head _ _ | assumption | exact At.put (by assumption) _ | apply At.tail | apply At.app) (by omega) ?_
       refine RL.nil _ _ _ _ ?_
       refine hK2 _ _ _ ?_
       refine SW.ret ?_
       refine retQ.ret RVs.nil (fun w hw => hw) ?_
       clear hK2 K2 hK1 K1 hK0 K0
       first
         | (have e : last = z := by omega
            subst e; have e2 : nxt last run last = run + 1 := if_pos ⟨by omega, rfl⟩
            rw [e2]; rfl)
         | (have e2 : nxt last run z = 1 := if_neg (by omega)
            rw [e2]; rfl)
       )
    ·try simp only [decide_eq_true_eq, decide_eq_false_iff_not, Bool.not_eq_true', Bool.not_eq_false', Int.not_lt, Int.not_le, Int.toNat_natCast] at hc0
     first
      | (exfalso; clear hK1 K1; clear hK0 K0; first | omega | contradiction)
      | (
       refine SW.skip ?_
       refine hK0 _ _ _ ?_
       refine SW.region _ _ _ _ ?_
       refine RL.st ?_
       refine NV.p T ?_
       refine RL.st ?_
       refine NV.p T ?_
       refine RL.st ?_
       refine NV.p T ?_
       refine RL.st ?_
       refine NV.p T ?_
       refine RL.st ?_
       refine NV.p T ?_
       refine RL.st ?_
       first
         | refine NV.store_var1 T rfl rfl rfl rfl (by conv => lhs; whnf) rfl (by repeat first | exact At.head _ _ | assumption | exact At.put (by assumption) _ | apply At.tail | apply At.app) rfl rfl ?_
         | refine NV.store_var T rfl rfl rfl (by exact (rfl : _ = [_])) rfl rfl (by repeat first | exact At.head _ _ | assumption | exact At.put (by assumption) _ | apply At.tail | apply At.app) (Nat.le_of_ble_eq_true rfl) rfl ?_
         | refine NV.store_elem T rfl rfl rfl rfl (by conv => lhs; whnf) rfl (by repeat first | exact At.head _ _ | assumption | exact At.put (by assumption) _ | apply At.tail | apply At.app) (by omega) ?_
       refine RL.st ?_
       refine NV.p T ?_
       refine RL.st ?_
       refine NV.p T ?_
       refine RL.st ?_
       first
         | refine NV.store_var1 T rfl rfl rfl rfl (by conv => lhs; whnf) rfl (by repeat first | exact At.head _ _ | assumption | exact At.put (by assumption) _ | apply At.tail | apply At.app) rfl rfl ?_
         | refine NV.store_var T rfl rfl rfl (by exact (rfl : _ = [_])) rfl rfl (by repeat first | exact At.head _ _ | assumption | exact At.put (by assumption) _ | apply At.tail | apply At.app) (Nat.le_of_ble_eq_true rfl) rfl ?_
         | refine NV.store_elem T rfl rfl rfl rfl (by conv => lhs; whnf) rfl (by repeat first | exact At.head _ _ | assumption | exact At.put (by assumption) _ | apply At.tail | apply At.app) (by omega) ?_
       refine RL.nil _ _ _ _ ?_
       try simp only [thenQ, blockQ, Nat.beq_refl, cond_true]
       refine retQ.norm RVs.nil (fun w hw => hw) ?_
       clear hK1 K1 hK0 K0
       first
         | (have e : last = z := by omega
            subst e; have e2 : nxt last run last = run + 1 := if_pos ⟨by omega, rfl⟩
            rw [e2]; rfl)
         | (have e2 : nxt last run z = 1 := if_neg (by omega)
            rw [e2]; rfl)
       )
    )
 ·try simp only [decide_eq_true_eq, decide_eq_false_iff_not, Bool.not_eq_true', Bool.not_eq_false', Int.not_lt, Int.not_le, Int.toNat_natCast] at hs0
  first
   | (exfalso; clear hK1 K1; clear hK0 K0; first | omega | contradiction)
   | (
    refine RL.guard_no rfl rfl rfl ?_
    refine RL.guard_no rfl rfl rfl ?_
    refine RL.guard_no rfl rfl rfl ?_
    refine RL.guard_no rfl rfl rfl ?_
    refine RL.guard_no rfl rfl rfl ?_
    refine RL.guard_no rfl rfl rfl ?_
    refine RL.st ?_
    refine NV.p T ?_
    refine RL.nil _ _ _ _ ?_
    refine hK1 _ _ _ ?_
    refine SW.cond_f rfl ?_
    refine SW.skip ?_
    refine hK0 _ _ _ ?_
    refine SW.region _ _ _ _ ?_
    refine RL.st ?_
    refine NV.p T ?_
    refine RL.st ?_
    refine NV.p T ?_
    refine RL.st ?_
    refine NV.p T ?_
    refine RL.st ?_
    refine NV.p T ?_
    refine RL.st ?_
    refine NV.p T ?_
    refine RL.st ?_
    first
      | refine NV.store_var1 T rfl rfl rfl rfl (by conv => lhs; whnf) rfl (by repeat first | exact At.head _ _ | assumption | exact At.put (by assumption) _ | apply At.tail | apply At.app) rfl rfl ?_
      | refine NV.store_var T rfl rfl rfl (by exact (rfl : _ = [_])) rfl rfl (by repeat first | exact At.head _ _ | assumption | exact At.put (by assumption) _ | apply At.tail | apply At.app) (Nat.le_of_ble_eq_true rfl) rfl ?_
      | refine NV.store_elem T rfl rfl rfl rfl (by conv => lhs; whnf) rfl (by repeat first | exact At.head _ _ | assumption | exact At.put (by assumption) _ | apply At.tail | apply At.app) (by omega) ?_
    refine RL.st ?_
    refine NV.p T ?_
    refine RL.st ?_
    refine NV.p T ?_
    refine RL.st ?_
    first
      | refine NV.store_var1 T rfl rfl rfl rfl (by conv => lhs; whnf) rfl (by repeat first | exact At.head _ _ | assumption | exact At.put (by assumption) _ | apply At.tail | apply At.app) rfl rfl ?_
      | refine NV.store_var T rfl rfl rfl (by exact (rfl : _ = [_])) rfl rfl (by repeat first | exact At.head _ _ | assumption | exact At.put (by assumption) _ | apply At.tail | apply At.app) (Nat.le_of_ble_eq_true rfl) rfl ?_
      | refine NV.store_elem T rfl rfl rfl rfl (by conv => lhs; whnf) rfl (by repeat first | exact At.head _ _ | assumption | exact At.put (by assumption) _ | apply At.tail | apply At.app) (by omega) ?_
    refine RL.nil _ _ _ _ ?_
    try simp only [thenQ, blockQ, Nat.beq_refl, cond_true]
    refine retQ.norm RVs.nil (fun w hw => hw) ?_
    clear hK1 K1 hK0 K0
    first
      | (have e : last = z := by omega
         subst e; have e2 : nxt last run last = run + 1 := if_pos ⟨by omega, rfl⟩
         rw [e2]; rfl)
      | (have e2 : nxt last run z = 1 := if_neg (by omega)
         rw [e2]; rfl)
    )
theorem rfull {w0 : World} {H : List Chunk} (sa : Option Addr) (n c : Nat) (es : List Int) (hR : Rd w0 H sa n c 1 (es.map (.int .u8))) (hn : n = es.length) (hm : n ≤ 140737488351232) : SC Try.prog w0 34 #[.slice sa n c] H (fun v H' => v = .bool (full5 es) ∧ H' = H) := by
 refine SC.enter Try.func34 rfl (Nat.le_of_ble_eq_true rfl) ?_
 refine SW.seq_k ?_
 intro K0 hK0
 refine SW.region _ _ _ _ ?_
 refine RL.st ?_
 refine NV.p T ?_
 refine RL.nil _ _ _ _ ?_
 refine hK0 _ _ _ ?_
 refine SW.seq_k ?_
 intro K1 hK1
 refine SW.region _ _ _ _ ?_
 refine RL.st ?_
 refine NV.p T ?_
 refine RL.st ?_
 refine NV.p T ?_
 refine RL.st ?_
 refine NV.p T ?_
 refine RL.nil _ _ _ _ ?_
 refine hK1 _ _ _ ?_
 refine SW.seq_k ?_
 intro K2 hK2
 refine SW.draw [(6, 0), (7, 1), (8, 2), (9, 3), (10, 4), (11, 5), (12, 6), (13, 7), (14, 8), (15, 9), (16, 10), (17, 11), (18, 12), (19, 13), (20, 14), (21, 15), (22, 16), (23, 17), (24, 18), (25, 19), (26, 20), (27, 21), (28, 22), (29, 23), (30, 24), (31, 25), (32, 26), (33, 27), (34, 28), (35, 29), (36, 30), (37, 31), (38, 32), (39, 33), (40, 34), (41, 35), (42, 36), (43, 37), (44, 38), (45, 39), (46, 40), (47, 41), (48, 42), (49, 43), (50, 44), (51, 45), (52, 46), (53, 47), (54, 48), (55, 49), (56, 50), (57, 51), (58, 52), (59, 53), (2, 54)] [[], [0], [1, 0], [2, 1, 0], [2, 1, 0], [4, 2, 1, 0], [3, 2, 1, 0, 5, 4], [6, 3, 2, 1, 0, 5, 4], [2, 1, 0], [2, 1, 0], [9, 2, 1, 0], [8, 2, 1, 0, 10, 9], [11, 8, 2, 1, 0, 10, 9], [7, 6, 3, 2, 1, 0, 5, 4, 12, 11, 8, 10, 9], [2, 1, 0, 13, 7, 6, 3, 5, 4, 12, 11, 8, 10, 9], [14, 2, 1, 0, 13, 7, 6, 3, 5, 4, 12, 11, 8, 10, 9], [15, 14, 2, 1, 0, 13, 7, 6, 3, 5, 4, 12, 11, 8, 10, 9], [15, 14, 2, 1, 0, 13, 7, 6, 3, 5, 4, 12, 11, 8, 10, 9], [17, 15, 14, 2, 1, 0, 13, 7, 6, 3, 5, 4, 12, 11, 8, 10, 9], [16, 15, 14, 2, 1, 0, 13, 7, 6, 3, 5, 4, 12, 11, 8, 10, 9, 18, 17], [19, 16, 15, 14, 2, 1, 0, 13, 7, 6, 3, 5, 4, 12, 11, 8, 10, 9, 18, 17], [15, 14, 2, 1, 0, 13, 7, 6, 3, 5, 4, 12, 11, 8, 10, 9], [15, 14, 2, 1, 0, 13, 7, 6, 3, 5, 4, 12, 11, 8, 10, 9], [22, 15, 14, 2, 1, 0, 13, 7, 6, 3, 5, 4, 12, 11, 8, 10, 9], [21, 15, 14, 2, 1, 0, 13, 7, 6, 3, 5, 4, 12, 11, 8, 10, 9, 23, 22], [24, 21, 15, 14, 2, 1, 0, 13, 7, 6, 3, 5, 4, 12, 11, 8, 10, 9, 23, 22], [20, 19, 16, 15, 14, 2, 1, 0, 13, 7, 6, 3, 5, 4, 12, 11, 8, 10, 9, 18, 17, 25, 24, 21, 23, 22], [15, 14, 2, 1, 0, 13, 7, 6, 3, 5, 4, 12, 11, 8, 10, 9, 26, 20, 19, 16, 18, 17, 25, 24, 21, 23, 22], [27, 15, 14, 2, 1, 0, 13, 7, 6, 3, 5, 4, 12, 11, 8, 10, 9, 26, 20, 19, 16, 18, 17, 25, 24, 21, 23, 22], [28, 27, 15, 14, 2, 1, 0, 13, 7, 6, 3, 5, 4, 12, 11, 8, 10, 9, 26, 20, 19, 16, 18, 17, 25, 24, 21, 23, 22], [28, 27, 15, 14, 2, 1, 0, 13, 7, 6, 3, 5, 4, 12, 11, 8, 10, 9, 26, 20, 19, 16, 18, 17, 25, 24, 21, 23, 22], [30, 28, 27, 15, 14, 2, 1, 0, 13, 7, 6, 3, 5, 4, 12, 11, 8, 10, 9, 26, 20, 19, 16, 18, 17, 25, 24, 21, 23, 22], [29, 28, 27, 15, 14, 2, 1, 0, 13, 7, 6, 3, 5, 4, 12, 11, 8, 10, 9, 26, 20, 19, 16, 18, 17, 25, 24, 21, 23, 22, 31, 30], [32, 29, 28, 27, 15, 14, 2, 1, 0, 13, 7, 6, 3, 5, 4, 12, 11, 8, 10, 9, 26, 20, 19, 16, 18, 17, 25, 24, 21, 23, 22, 31, 30], [28, 27, 15, 14, 2, 1, 0, 13, 7, 6, 3, 5, 4, 12, 11, 8, 10, 9, 26, 20, 19, 16, 18, 17, 25, 24, 21, 23, 22], [28, 27, 15, 14, 2, 1, 0, 13, 7, 6, 3, 5, 4, 12, 11, 8, 10, 9, 26, 20, 19, 16, 18, 17, 25, 24, 21, 23, 22], [35, 28, 27, 15, 14, 2, 1, 0, 13, 7, 6, 3, 5, 4, 12, 11, 8, 10, 9, 26, 20, 19, 16, 18, 17, 25, 24, 21, 23, 22], [34, 28, 27, 15, 14, 2, 1, 0, 13, 7, 6, 3, 5, 4, 12, 11, 8, 10, 9, 26, 20, 19, 16, 18, 17, 25, 24, 21, 23, 22, 36, 35], [37, 34, 28, 27, 15, 14, 2, 1, 0, 13, 7, 6, 3, 5, 4, 12, 11, 8, 10, 9, 26, 20, 19, 16, 18, 17, 25, 24, 21, 23, 22, 36, 35], [33, 32, 29, 28, 27, 15, 14, 2, 1, 0, 13, 7, 6, 3, 5, 4, 12, 11, 8, 10, 9, 26, 20, 19, 16, 18, 17, 25, 24, 21, 23, 22, 31, 30, 38, 37, 34, 36, 35], [28, 27, 15, 14, 2, 1, 0, 13, 7, 6, 3, 5, 4, 12, 11, 8, 10, 9, 26, 20, 19, 16, 18, 17, 25, 24, 21, 23, 22, 39, 33, 32, 29, 31, 30, 38, 37, 34, 36, 35], [40, 28, 27, 15, 14, 2, 1, 0, 13, 7, 6, 3, 5, 4, 12, 11, 8, 10, 9, 26, 20, 19, 16, 18, 17, 25, 24, 21, 23, 22, 39, 33, 32, 29, 31, 30, 38, 37, 34, 36, 35], [41, 40, 28, 27, 15, 14, 2, 1, 0, 13, 7, 6, 3, 5, 4, 12, 11, 8, 10, 9, 26, 20, 19, 16, 18, 17, 25, 24, 21, 23, 22, 39, 33, 32, 29, 31, 30, 38, 37, 34, 36, 35], [41, 40, 28, 27, 15, 14, 2, 1, 0, 13, 7, 6, 3, 5, 4, 12, 11, 8, 10, 9, 26, 20, 19, 16, 18, 17, 25, 24, 21, 23, 22, 39, 33, 32, 29, 31, 30, 38, 37, 34, 36, 35], [43, 41, 40, 28, 27, 15, 14, 2, 1, 0, 13, 7, 6, 3, 5, 4, 12, 11, 8, 10, 9, 26, 20, 19, 16, 18, 17, 25, 24, 21, 23, 22, 39, 33, 32, 29, 31, 30, 38, 37, 34, 36, 35], [42, 41, 40, 28, 27, 15, 14, 2, 1, 0, 13, 7, 6, 3, 5, 4, 12, 11, 8, 10, 9, 26, 20, 19, 16, 18, 17, 25, 24, 21, 23, 22, 39, 33, 32, 29, 31, 30, 38, 37, 34, 36, 35, 44, 43], [45, 42, 41, 40, 28, 27, 15, 14, 2, 1, 0, 13, 7, 6, 3, 5, 4, 12, 11, 8, 10, 9, 26, 20, 19, 16, 18, 17, 25, 24, 21, 23, 22, 39, 33, 32, 29, 31, 30, 38, 37, 34, 36, 35, 44, 43], [41, 40, 28, 27, 15, 14, 2, 1, 0, 13, 7, 6, 3, 5, 4, 12, 11, 8, 10, 9, 26, 20, 19, 16, 18, 17, 25, 24, 21, 23, 22, 39, 33, 32, 29, 31, 30, 38, 37, 34, 36, 35], [41, 40, 28, 27, 15, 14, 2, 1, 0, 13, 7, 6, 3, 5, 4, 12, 11, 8, 10, 9, 26, 20, 19, 16, 18, 17, 25, 24, 21, 23, 22, 39, 33, 32, 29, 31, 30, 38, 37, 34, 36, 35], [48, 41, 40, 28, 27, 15, 14, 2, 1, 0, 13, 7, 6, 3, 5, 4, 12, 11, 8, 10, 9, 26, 20, 19, 16, 18, 17, 25, 24, 21, 23, 22, 39, 33, 32, 29, 31, 30, 38, 37, 34, 36, 35], [47, 41, 40, 28, 27, 15, 14, 2, 1, 0, 13, 7, 6, 3, 5, 4, 12, 11, 8, 10, 9, 26, 20, 19, 16, 18, 17, 25, 24, 21, 23, 22, 39, 33, 32, 29, 31, 30, 38, 37, 34, 36, 35, 49, 48], [50, 47, 41, 40, 28, 27, 15, 14, 2, 1, 0, 13, 7, 6, 3, 5, 4, 12, 11, 8, 10, 9, 26, 20, 19, 16, 18, 17, 25, 24, 21, 23, 22, 39, 33, 32, 29, 31, 30, 38, 37, 34, 36, 35, 49, 48], [46, 45, 42, 41, 40, 28, 27, 15, 14, 2, 1, 0, 13, 7, 6, 3, 5, 4, 12, 11, 8, 10, 9, 26, 20, 19, 16, 18, 17, 25, 24, 21, 23, 22, 39, 33, 32, 29, 31, 30, 38, 37, 34, 36, 35, 44, 43, 51, 50, 47, 49, 48], [41, 40, 28, 27, 15, 14, 2, 1, 0, 13, 7, 6, 3, 5, 4, 12, 11, 8, 10, 9, 26, 20, 19, 16, 18, 17, 25, 24, 21, 23, 22, 39, 33, 32, 29, 31, 30, 38, 37, 34, 36, 35, 52, 46, 45, 42, 44, 43, 51, 50, 47, 49, 48], [53, 41, 40, 28, 27, 15, 14, 2, 1, 0, 13, 7, 6, 3, 5, 4, 12, 11, 8, 10, 9, 26, 20, 19, 16, 18, 17, 25, 24, 21, 23, 22, 39, 33, 32, 29, 31, 30, 38, 37, 34, 36, 35, 52, 46, 45, 42, 44, 43, 51, 50, 47, 49, 48]] mixed (by kernel_rfl) (by kernel_rfl) ?_
 refine RD.q rfl rfl (Gd.none rfl) (pev_sound T (by conv => lhs; whnf; arg 1; whnf)) ?_
 refine RD.q rfl rfl (Gd.none rfl) (pev_sound T (by conv => lhs; whnf; arg 1; whnf)) ?_
 refine RD.q rfl rfl (Gd.none rfl) (pev_sound T (by conv => lhs; whnf; arg 1; whnf)) ?_
 refine RD.split 2 rfl (fun hs0 => ?_) (fun hs0 => ?_)
 ·try simp only [decide_eq_true_eq, decide_eq_false_iff_not, Bool.not_eq_true', Bool.not_eq_false', Int.not_lt, Int.not_le, Int.toNat_natCast] at hs0
  first
   | (exfalso; clear hK2 K2; clear hK1 K1; clear hK0 K0; first | omega | contradiction)
   | (
    refine RD.q rfl rfl (Gd.yes rfl rfl) (pev_sound T (by conv => lhs; whnf; arg 1; whnf)) ?_
    refine RD.q rfl rfl (Gd.yes rfl rfl) (pev_sound T (by conv => lhs; whnf; arg 1; whnf)) ?_
    refine RD.q rfl rfl (Gd.yes rfl rfl) (by first | exact QV.arith rfl rfl rfl rfl (by omega) (by omega) | exact QV.arith_u8 rfl rfl rfl rfl (by omega) (by omega) | exact QV.arith_u16 rfl rfl rfl rfl (by omega) (by omega) | exact QV.arith_u32 rfl rfl rfl rfl (by omega) (by omega) | exact QV.arith_u64 rfl rfl rfl rfl (by omega) (by omega) | exact pev_sound T rfl) ?_
    refine RD.q rfl rfl (Gd.yes rfl rfl) (by first | exact QV.indexAddr_array T rfl rfl rfl rfl rfl (by omega) (by omega) | exact QV.indexAddr_slice T rfl rfl rfl rfl rfl (Rd.some hR (by omega)) (by omega) (by omega)) ?_
    refine RD.q rfl rfl (Gd.yes rfl rfl) (by first | exact QV.load_var1 T rfl rfl rfl rfl (by repeat first | exact At.head _ _ | assumption | exact At.put (by assumption) _ | apply At.tail | apply At.app) rfl | exact QV.load_varN T rfl rfl rfl rfl rfl (by repeat first | exact At.head _ _ | assumption | exact At.put (by assumption) _ | apply At.tail | apply At.app) (by exact (rfl : _ = [_])) rfl | exact QV.load_elem T rfl rfl rfl rfl hR (by first | exact map_get _ _ (by omega) | assumption)) ?_
    refine RD.q rfl rfl (Gd.yes rfl rfl) (pev_sound T (by conv => lhs; whnf; arg 1; whnf)) ?_
    refine RD.q rfl rfl (Gd.yes rfl rfl) (pev_sound T (by conv => lhs; whnf; arg 1; whnf)) ?_
    refine RD.q rfl rfl (Gd.yes rfl rfl) (by first | exact QV.arith rfl rfl rfl rfl (by omega) (by omega) | exact QV.arith_u8 rfl rfl rfl rfl (by omega) (by omega) | exact QV.arith_u16 rfl rfl rfl rfl (by omega) (by omega) | exact QV.arith_u32 rfl rfl rfl rfl (by omega) (by omega) | exact QV.arith_u64 rfl rfl rfl rfl (by omega) (by omega) | exact pev_sound T rfl) ?_
    refine RD.q rfl rfl (Gd.yes rfl rfl) (by first | exact QV.indexAddr_array T rfl rfl rfl rfl rfl (by omega) (by omega) | exact QV.indexAddr_slice T rfl rfl rfl rfl rfl (Rd.some hR (by omega)) (by omega) (by omega)) ?_
    refine RD.q rfl rfl (Gd.yes rfl rfl) (by first | exact QV.load_var1 T rfl rfl rfl rfl (by repeat first | exact At.head _ _ | assumption | exact At.put (by assumption) _ | apply At.tail | apply At.app) rfl | exact QV.load_varN T rfl rfl rfl rfl rfl (by repeat first | exact At.head _ _ | assumption | exact At.put (by assumption) _ | apply At.tail | apply At.app) (by exact (rfl : _ = [_])) rfl | exact QV.load_elem T rfl rfl rfl rfl hR (by first | exact map_get _ _ (by omega) | assumption)) ?_
    refine RD.q rfl rfl (Gd.yes rfl rfl) (pev_sound T (by conv => lhs; whnf; arg 1; whnf)) ?_
    refine RD.q rfl rfl (Gd.none rfl) (pev_sound T (by conv => lhs; whnf; arg 1; whnf)) ?_
    refine RD.q rfl rfl (Gd.none rfl) (pev_sound T (by conv => lhs; whnf; arg 1; whnf)) ?_
    refine RD.split 15 rfl (fun hs1 => ?_) (fun hs1 => ?_)
    ·try simp only [decide_eq_true_eq, decide_eq_false_iff_not, Bool.not_eq_true', Bool.not_eq_false', Int.not_lt, Int.not_le, Int.toNat_natCast] at hs1
     first
      | (exfalso; clear hK2 K2; clear hK1 K1; clear hK0 K0; first | omega | contradiction)
      | (
       refine RD.q rfl rfl (Gd.yes rfl rfl) (pev_sound T (by conv => lhs; whnf; arg 1; whnf)) ?_
       refine RD.q rfl rfl (Gd.yes rfl rfl) (pev_sound T (by conv => lhs; whnf; arg 1; whnf)) ?_
       refine RD.q rfl rfl (Gd.yes rfl rfl) (by first | exact QV.arith rfl rfl rfl rfl (by omega) (by omega) | exact QV.arith_u8 rfl rfl rfl rfl (by omega) (by omega) | exact QV.arith_u16 rfl rfl rfl rfl (by omega) (by omega) | exact QV.arith_u32 rfl rfl rfl rfl (by omega) (by omega) | exact QV.arith_u64 rfl rfl rfl rfl (by omega) (by omega) | exact pev_sound T rfl) ?_
       refine RD.q rfl rfl (Gd.yes rfl rfl) (by first | exact QV.indexAddr_array T rfl rfl rfl rfl rfl (by omega) (by omega) | exact QV.indexAddr_slice T rfl rfl rfl rfl rfl (Rd.some hR (by omega)) (by omega) (by omega)) ?_
       refine RD.q rfl rfl (Gd.yes rfl rfl) (by first | exact QV.load_var1 T rfl rfl rfl rfl (by repeat first | exact At.head _ _ | assumption | exact At.put (by assumption) _ | apply At.tail | apply At.app) rfl | exact QV.load_varN T rfl rfl rfl rfl rfl (by repeat first | exact At.head _ _ | assumption | exact At.put (by assumption) _ | apply At.tail | apply At.app) (by exact (rfl : _ = [_])) rfl | exact QV.load_elem T rfl rfl rfl rfl hR (by first | exact map_get _ _ (by omega) | assumption)) ?_
       refine RD.q rfl rfl (Gd.yes rfl rfl) (pev_sound T (by conv => lhs; whnf; arg 1; whnf)) ?_
       refine RD.q rfl rfl (Gd.yes rfl rfl) (pev_sound T (by conv => lhs; whnf; arg 1; whnf)) ?_
       refine RD.q rfl rfl (Gd.yes rfl rfl) (by first | exact QV.arith rfl rfl rfl rfl (by omega) (by omega) | exact QV.arith_u8 rfl rfl rfl rfl (by omega) (by omega) | exact QV.arith_u16 rfl rfl rfl rfl (by omega) (by omega) | exact QV.arith_u32 rfl rfl rfl rfl (by omega) (by omega) | exact QV.arith_u64 rfl rfl rfl rfl (by omega) (by omega) | exact pev_sound T rfl) ?_
       refine RD.q rfl rfl (Gd.yes rfl rfl) (by first | exact QV.indexAddr_array T rfl rfl rfl rfl rfl (by omega) (by omega) | exact QV.indexAddr_slice T rfl rfl rfl rfl rfl (Rd.some hR (by omega)) (by omega) (by omega)) ?_
       refine RD.q rfl rfl (Gd.yes rfl rfl) (by first | exact QV.load_var1 T rfl rfl rfl rfl (by repeat first | exact At.head _ _ | assumption | exact At.put (by assumption) _ | apply At.tail | apply At.app) rfl | exact QV.load_varN T rfl rfl rfl rfl rfl (by repeat first | exact At.head _ _ | assumption | exact At.put (by assumption) _ | apply At.tail | apply At.app) (by exact (rfl : _ = [_])) rfl | exact QV.load_elem T rfl rfl rfl rfl hR (by first | exact map_get _ _ (by omega) | assumption)) ?_
       refine RD.q rfl rfl (Gd.yes rfl rfl) (pev_sound T (by conv => lhs; whnf; arg 1; whnf)) ?_
       refine RD.q rfl rfl (Gd.none rfl) (pev_sound T (by conv => lhs; whnf; arg 1; whnf)) ?_
       refine RD.q rfl rfl (Gd.none rfl) (pev_sound T (by conv => lhs; whnf; arg 1; whnf)) ?_
       refine RD.split 28 rfl (fun hs2 => ?_) (fun hs2 => ?_)
       ·try simp only [decide_eq_true_eq, decide_eq_false_iff_not, Bool.not_eq_true', Bool.not_eq_false', Int.not_lt, Int.not_le, Int.toNat_natCast] at hs2
        first
         | (exfalso; clear hK2 K2; clear hK1 K1; clear hK0 K0; first | omega | contradiction)
         | (
          refine RD.q rfl rfl (Gd.yes rfl rfl) (pev_sound T (by conv => lhs; whnf; arg 1; whnf)) ?_
          refine RD.q rfl rfl (Gd.yes rfl rfl) (pev_sound T (by conv => lhs; whnf; arg 1; whnf)) ?_
          refine RD.q rfl rfl (Gd.yes rfl rfl) (by first | exact QV.arith rfl rfl rfl rfl (by omega) (by omega) | exact QV.arith_u8 rfl rfl rfl rfl (by omega) (by omega) | exact QV.arith_u16 rfl rfl rfl rfl (by omega) (by omega) | exact QV.arith_u32 rfl rfl rfl rfl (by omega) (by omega) | exact QV.arith_u64 rfl rfl rfl rfl (by omega) (by omega) | exact pev_sound T rfl) ?_
          refine RD.q rfl rfl (Gd.yes rfl rfl) (by first | exact QV.indexAddr_array T rfl rfl rfl rfl rfl (by omega) (by omega) | exact QV.indexAddr_slice T rfl rfl rfl rfl rfl (Rd.some hR (by omega)) (by omega) (by omega)) ?_
          refine RD.q rfl rfl (Gd.yes rfl rfl) (by first | exact QV.load_var1 T rfl rfl rfl rfl (by repeat first | exact At.head _ _ | assumption | exact At.put (by assumption) _ | apply At.tail | apply At.app) rfl | exact QV.load_varN T rfl rfl rfl rfl rfl (by repeat first | exact At.head _ _ | assumption | exact At.put (by assumption) _ | apply At.tail | apply At.app) (by exact (rfl : _ = [_])) rfl | exact QV.load_elem T rfl rfl rfl rfl hR (by first | exact map_get _ _ (by omega) | assumption)) ?_
          refine RD.q rfl rfl (Gd.yes rfl rfl) (pev_sound T (by conv => lhs; whnf; arg 1; whnf)) ?_
          refine RD.q rfl rfl (Gd.yes rfl rfl) (pev_sound T (by conv => lhs; whnf; arg 1; whnf)) ?_
          refine RD.q rfl rfl (Gd.yes rfl rfl) (by first | exact QV.arith rfl rfl rfl rfl (by omega) (by omega) | exact QV.arith_u8 rfl rfl rfl rfl (by omega) (by omega) | exact QV.arith_u16 rfl rfl rfl rfl (by omega) (by omega) | exact QV.arith_u32 rfl rfl rfl rfl (by omega) (by omega) | exact QV.arith_u64 rfl rfl rfl rfl (by omega) (by omega) | exact pev_sound T rfl) ?_
          refine RD.q rfl rfl (Gd.yes rfl rfl) (by first | exact QV.indexAddr_array T rfl rfl rfl rfl rfl (by omega) (by omega) | exact QV.indexAddr_slice T rfl rfl rfl rfl rfl (Rd.some hR (by omega)) (by omega) (by omega)) ?_
          refine RD.q rfl rfl (Gd.yes rfl rfl) (by first | exact QV.load_var1 T rfl rfl rfl rfl (by repeat first | exact At.head _ _ | assumption | exact At.put (by assumption) _ | apply At.tail | apply At.app) rfl | exact QV.load_varN T rfl rfl rfl rfl rfl (by repeat first | exact At.head _ _ | assumption | exact At.put (by assumption) _ | apply At.tail | apply At.app) (by exact (rfl : _ = [_])) rfl | exact QV.load_elem T rfl rfl rfl rfl hR (by first | exact map_get _ _ (by omega) | assumption)) ?_
          refine RD.q rfl rfl (Gd.yes rfl rfl) (pev_sound T (by conv => lhs; whnf; arg 1; whnf)) ?_
          refine RD.q rfl rfl (Gd.none rfl) (pev_sound T (by conv => lhs; whnf; arg 1; whnf)) ?_
          refine RD.q rfl rfl (Gd.none rfl) (pev_sound T (by conv => lhs; whnf; arg 1; whnf)) ?_
          refine RD.split 41 rfl (fun hs3 => ?_) (fun hs3 => ?_)
          ·try simp only [decide_eq_true_eq, decide_eq_false_iff_not, Bool.not_eq_true', Bool.not_eq_false', Int.not_lt, Int.not_le, Int.toNat_natCast] at hs3
           first
            | (exfalso; clear hK2 K2; clear hK1 K1; clear hK0 K0; first | omega | contradiction)
            | (
             refine RD.q rfl rfl (Gd.yes rfl rfl) (pev_sound T (by conv => lhs; whnf; arg 1; whnf)) ?_
             refine RD.q rfl rfl (Gd.yes rfl rfl) (pev_sound T (by conv => lhs; whnf; arg 1; whnf)) ?_
             refine RD.q rfl rfl (Gd.yes rfl rfl) (by first | exact QV.arith rfl rfl rfl rfl (by omega) (by omega) | exact QV.arith_u8 rfl rfl rfl rfl (by omega) (by omega) | exact QV.arith_u16 rfl rfl rfl rfl (by omega) (by omega) | exact QV.arith_u32 rfl rfl rfl rfl (by omega) (by omega) | exact QV.arith_u64 rfl rfl rfl rfl (by omega) (by omega) | exact pev_sound T rfl) ?_
             refine RD.q rfl rfl (Gd.yes rfl rfl) (by first | exact QV.indexAddr_array T rfl rfl rfl rfl rfl (by omega) (by omega) | exact QV.indexAddr_slice T rfl rfl rfl rfl rfl (Rd.some hR (by omega)) (by omega) (by omega)) ?_
             refine RD.q rfl rfl (Gd.yes rfl rfl) (by first | exact QV.load_var1 T rfl rfl rfl rfl (by repeat first | exact At.head _ _ | assumption | exact At.put (by assumption) _ | apply At.tail | apply At.app) rfl | exact QV.load_varN T rfl rfl rfl rfl rfl (by repeat first | exact At.head _ _ | assumption | exact At.put (by assumption) _ | apply At.tail | apply At.app) (by exact (rfl : _ = [_])) rfl | exact QV.load_elem T rfl rfl rfl rfl hR (by first | exact map_get _ _ (by omega) | assumption)) ?_
             refine RD.q rfl rfl (Gd.yes rfl rfl) (pev_sound T (by conv => lhs; whnf; arg 1; whnf)) ?_
             refine RD.q rfl rfl (Gd.yes rfl rfl) (pev_sound T (by conv => lhs; whnf; arg 1; whnf)) ?_
             refine RD.q rfl rfl (Gd.yes rfl rfl) (by first | exact QV.arith rfl rfl rfl rfl (by omega) (by omega) | exact QV.arith_u8 rfl rfl rfl rfl (by omega) (by omega) | exact QV.arith_u16 rfl rfl rfl rfl (by omega) (by omega) | exact QV.arith_u32 rfl rfl rfl rfl (by omega) (by omega) | exact QV.arith_u64 rfl rfl rfl rfl (by omega) (by omega) | exact pev_sound T rfl) ?_
             refine RD.q rfl rfl (Gd.yes rfl rfl) (by first | exact QV.indexAddr_array T rfl rfl rfl rfl rfl (by omega) (by omega) | exact QV.indexAddr_slice T rfl rfl rfl rfl rfl (Rd.some hR (by omega)) (by omega) (by omega)) ?_
             refine RD.q rfl rfl (Gd.yes rfl rfl) (by first | exact QV.load_var1 T rfl rfl rfl rfl (by repeat first | exact At.head _ _ | assumption | exact At.put (by assumption) _ | apply At.tail | apply At.app) rfl | exact QV.load_varN T rfl rfl rfl rfl rfl (by repeat first | exact At.head _ _ | assumption | exact At.put (by assumption) _ | apply At.tail | apply At.app) (by exact (rfl : _ = [_])) rfl | exact QV.load_elem T rfl rfl rfl rfl hR (by first | exact map_get _ _ (by omega) | assumption)) ?_
             refine RD.q rfl rfl (Gd.yes rfl rfl) (pev_sound T (by conv => lhs; whnf; arg 1; whnf)) ?_
             refine RD.q rfl rfl (Gd.none rfl) (pev_sound T (by conv => lhs; whnf; arg 1; whnf)) ?_
             refine RD.q rfl rfl (Gd.none rfl) (pev_sound T (by conv => lhs; whnf; arg 1; whnf)) ?_
             refine RD.k rfl rfl ?_
             refine hK2 _ _ _ ?_
             refine SW.ret ?_
             refine retQ.ret (H' := H) (RVs.tmp (by conv => lhs; whnf) RVs.nil) (fun w hw => Sat.sub (by repeat first | exact List.Sublist.refl _ | apply List.Sublist.cons_cons | apply List.Sublist.cons | exact List.sublist_append_right _ _ | refine List.Sublist.trans ?_ (List.sublist_append_right _ _)) hw) ?_
             clear hK2 K2 hK1 K1 hK0 K0
             have q1 : ((n : Int) - 1).toNat = es.length - 1 := by omega
             have q2 : ((n : Int) - 2).toNat = es.length - 2 := by omega
             have q3 : ((n : Int) - 3).toNat = es.length - 3 := by omega
             have q4 : ((n : Int) - 4).toNat = es.length - 4 := by omega
             have q5 : ((n : Int) - 5).toNat = es.length - 5 := by omega
             refine ⟨boolE ?_, rfl⟩
             simp only [q1, q2, q3, q4, q5] at *
             unfold full5
             first
               | (rw [eq_comm, decide_eq_false_iff_not]; omega)
               | (rw [Bool.eq_iff_iff]; simp only [decide_eq_true_eq]; omega)
             )
          ·try simp only [decide_eq_true_eq, decide_eq_false_iff_not, Bool.not_eq_true', Bool.not_eq_false', Int.not_lt, Int.not_le, Int.toNat_natCast] at hs3
           first
            | (exfalso; clear hK2 K2; clear hK1 K1; clear hK0 K0; first | omega | contradiction)
            | (
             refine RD.skip rfl rfl rfl rfl ?_
             refine RD.skip rfl rfl rfl rfl ?_
             refine RD.skip rfl rfl rfl rfl ?_
             refine RD.skip rfl rfl rfl rfl ?_
             refine RD.skip rfl rfl rfl rfl ?_
             refine RD.skip rfl rfl rfl rfl ?_
             refine RD.skip rfl rfl rfl rfl ?_
             refine RD.skip rfl rfl rfl rfl ?_
             refine RD.skip rfl rfl rfl rfl ?_
             refine RD.skip rfl rfl rfl rfl ?_
             refine RD.skip rfl rfl rfl rfl ?_
             refine RD.q rfl rfl (Gd.none rfl) (pev_sound T (by conv => lhs; whnf; arg 1; whnf)) ?_
             refine RD.q rfl rfl (Gd.none rfl) (pev_sound T (by conv => lhs; whnf; arg 1; whnf)) ?_
             refine RD.k rfl rfl ?_
             refine hK2 _ _ _ ?_
             refine SW.ret ?_
             refine retQ.ret (H' := H) (RVs.tmp (by conv => lhs; whnf) RVs.nil) (fun w hw => Sat.sub (by repeat first | exact List.Sublist.refl _ | apply List.Sublist.cons_cons | apply List.Sublist.cons | exact List.sublist_append_right _ _ | refine List.Sublist.trans ?_ (List.sublist_append_right _ _)) hw) ?_
             clear hK2 K2 hK1 K1 hK0 K0
             have q1 : ((n : Int) - 1).toNat = es.length - 1 := by omega
             have q2 : ((n : Int) - 2).toNat = es.length - 2 := by omega
             have q3 : ((n : Int) - 3).toNat = es.length - 3 := by omega
             have q4 : ((n : Int) - 4).toNat = es.length - 4 := by omega
             have q5 : ((n : Int) - 5).toNat = es.length - 5 := by omega
             refine ⟨boolE ?_, rfl⟩
             simp only [q1, q2, q3, q4, q5] at *
             unfold full5
             first
               | (rw [eq_comm, decide_eq_false_iff_not]; omega)
               | (rw [Bool.eq_iff_iff]; simp only [decide_eq_true_eq]; omega)
             )
          )
       ·try simp only [decide_eq_true_eq, decide_eq_false_iff_not, Bool.not_eq_true', Bool.not_eq_false', Int.not_lt, Int.not_le, Int.toNat_natCast] at hs2
        first
         | (exfalso; clear hK2 K2; clear hK1 K1; clear hK0 K0; first | omega | contradiction)
         | (
          refine RD.skip rfl rfl rfl rfl ?_
          refine RD.skip rfl rfl rfl rfl ?_
          refine RD.skip rfl rfl rfl rfl ?_
          refine RD.skip rfl rfl rfl rfl ?_
          refine RD.skip rfl rfl rfl rfl ?_
          refine RD.skip rfl rfl rfl rfl ?_
          refine RD.skip rfl rfl rfl rfl ?_
          refine RD.skip rfl rfl rfl rfl ?_
          refine RD.skip rfl rfl rfl rfl ?_
          refine RD.skip rfl rfl rfl rfl ?_
          refine RD.skip rfl rfl rfl rfl ?_
          refine RD.q rfl rfl (Gd.none rfl) (pev_sound T (by conv => lhs; whnf; arg 1; whnf)) ?_
          refine RD.q rfl rfl (Gd.none rfl) (pev_sound T (by conv => lhs; whnf; arg 1; whnf)) ?_
          refine RD.skip rfl rfl rfl rfl ?_
          refine RD.skip rfl rfl rfl rfl ?_
          refine RD.skip rfl rfl rfl rfl ?_
          refine RD.skip rfl rfl rfl rfl ?_
          refine RD.skip rfl rfl rfl rfl ?_
          refine RD.skip rfl rfl rfl rfl ?_
          refine RD.skip rfl rfl rfl rfl ?_
          refine RD.skip rfl rfl rfl rfl ?_
          refine RD.skip rfl rfl rfl rfl ?_
          refine RD.skip rfl rfl rfl rfl ?_
          refine RD.skip rfl rfl rfl rfl ?_
          refine RD.q rfl rfl (Gd.none rfl) (pev_sound T (by conv => lhs; whnf; arg 1; whnf)) ?_
          refine RD.q rfl rfl (Gd.none rfl) (pev_sound T (by conv => lhs; whnf; arg 1; whnf)) ?_
          refine RD.k rfl rfl ?_
          refine hK2 _ _ _ ?_
          refine SW.ret ?_
          refine retQ.ret (H' := H) (RVs.tmp (by conv => lhs; whnf) RVs.nil) (fun w hw => Sat.sub (by repeat first | exact List.Sublist.refl _ | apply List.Sublist.cons_cons | apply List.Sublist.cons | exact List.sublist_append_right _ _ | refine List.Sublist.trans ?_ (List.sublist_append_right _ _)) hw) ?_
          clear hK2 K2 hK1 K1 hK0 K0
          have q1 : ((n : Int) - 1).toNat = es.length - 1 := by omega
          have q2 : ((n : Int) - 2).toNat = es.length - 2 := by omega
          have q3 : ((n : Int) - 3).toNat = es.length - 3 := by omega
          have q4 : ((n : Int) - 4).toNat = es.length - 4 := by omega
          have q5 : ((n : Int) - 5).toNat = es.length - 5 := by omega
          refine ⟨boolE ?_, rfl⟩
          simp only [q1, q2, q3, q4, q5] at *
          unfold full5
          first
            | (rw [eq_comm, decide_eq_false_iff_not]; omega)
            | (rw [Bool.eq_iff_iff]; simp only [decide_eq_true_eq]; omega)
          )
       )
    ·try simp only [decide_eq_true_eq, decide_eq_false_iff_not, Bool.not_eq_true', Bool.not_eq_false', Int.not_lt, Int.not_le, Int.toNat_natCast] at hs1
     first
      | (exfalso; clear hK2 K2; clear hK1 K1; clear hK0 K0; first | omega | contradiction)
      | (
       refine RD.skip rfl rfl rfl rfl ?_
       refine RD.skip rfl rfl rfl rfl ?_
       refine RD.skip rfl rfl rfl rfl ?_
       refine RD.skip rfl rfl rfl rfl ?_
       refine RD.skip rfl rfl rfl rfl ?_
       refine RD.skip rfl rfl rfl rfl ?_
       refine RD.skip rfl rfl rfl rfl ?_
       refine RD.skip rfl rfl rfl rfl ?_
       refine RD.skip rfl rfl rfl rfl ?_
       refine RD.skip rfl rfl rfl rfl ?_
       refine RD.skip rfl rfl rfl rfl ?_
       refine RD.q rfl rfl (Gd.none rfl) (pev_sound T (by conv => lhs; whnf; arg 1; whnf)) ?_
       refine RD.q rfl rfl (Gd.none rfl) (pev_sound T (by conv => lhs; whnf; arg 1; whnf)) ?_
       refine RD.skip rfl rfl rfl rfl ?_
       refine RD.skip rfl rfl rfl rfl ?_
       refine RD.skip rfl rfl rfl rfl ?_
       refine RD.skip rfl rfl rfl rfl ?_
       refine RD.skip rfl rfl rfl rfl ?_
       refine RD.skip rfl rfl rfl rfl ?_
       refine RD.skip rfl rfl rfl rfl ?_
       refine RD.skip rfl rfl rfl rfl ?_
       refine RD.skip rfl rfl rfl rfl ?_
       refine RD.skip rfl rfl rfl rfl ?_
       refine RD.skip rfl rfl rfl rfl ?_
       refine RD.q rfl rfl (Gd.none rfl) (pev_sound T (by conv => lhs; whnf; arg 1; whnf)) ?_
       refine RD.q rfl rfl (Gd.none rfl) (pev_sound T (by conv => lhs; whnf; arg 1; whnf)) ?_
       refine RD.skip rfl rfl rfl rfl ?_
       refine RD.skip rfl rfl rfl rfl ?_
       refine RD.skip rfl rfl rfl rfl ?_
       refine RD.skip rfl rfl rfl rfl ?_
       refine RD.skip rfl rfl rfl rfl ?_
       refine RD.skip rfl rfl rfl rfl ?_
       refine RD.skip rfl rfl rfl rfl ?_
       refine RD.skip rfl rfl rfl rfl ?_
       refine RD.skip rfl rfl rfl rfl ?_
       refine RD.skip rfl rfl rfl rfl ?_
       refine RD.skip rfl rfl rfl rfl ?_
       refine RD.q rfl rfl (Gd.none rfl) (pev_sound T (by conv => lhs; whnf; arg 1; whnf)) ?_
       refine RD.q rfl rfl (Gd.none rfl) (pev_sound T (by conv => lhs; whnf; arg 1; whnf)) ?_
       refine RD.k rfl rfl ?_
       refine hK2 _ _ _ ?_
       refine SW.ret ?_
       refine retQ.ret (H' := H) (RVs.tmp (by conv => lhs; whnf) RVs.nil) (fun w hw => Sat.sub (by repeat first | exact List.Sublist.refl _ | apply List.Sublist.cons_cons | apply List.Sublist.cons | exact List.sublist_append_right _ _ | refine List.Sublist.trans ?_ (List.sublist_append_right _ _)) hw) ?_
       clear hK2 K2 hK1 K1 hK0 K0
       have q1 : ((n : Int) - 1).toNat = es.length - 1 := by omega
       have q2 : ((n : Int) - 2).toNat = es.length - 2 := by omega
       have q3 : ((n : Int) - 3).toNat = es.length - 3 := by omega
       have q4 : ((n : Int) - 4).toNat = es.length - 4 := by omega
       have q5 : ((n : Int) - 5).toNat = es.length - 5 := by omega
       refine ⟨boolE ?_, rfl⟩
       simp only [q1, q2, q3, q4, q5] at *
       unfold full5
       first
         | (rw [eq_comm, decide_eq_false_iff_not]; omega)
         | (rw [Bool.eq_iff_iff]; simp only [decide_eq_true_eq]; omega)
       )
    )
 ·try simp only [decide_eq_true_eq, decide_eq_false_iff_not, Bool.not_eq_true', Bool.not_eq_false', Int.not_lt, Int.not_le, Int.toNat_natCast] at hs0
  first
   | (exfalso; clear hK2 K2; clear hK1 K1; clear hK0 K0; first | omega | contradiction)
   | (
    refine RD.skip rfl rfl rfl rfl ?_
    refine RD.skip rfl rfl rfl rfl ?_
    refine RD.skip rfl rfl rfl rfl ?_
    refine RD.skip rfl rfl rfl rfl ?_
    refine RD.skip rfl rfl rfl rfl ?_
    refine RD.skip rfl rfl rfl rfl ?_
    refine RD.skip rfl rfl rfl rfl ?_
    refine RD.skip rfl rfl rfl rfl ?_
    refine RD.skip rfl rfl rfl rfl ?_
    refine RD.skip rfl rfl rfl rfl ?_
    refine RD.skip rfl rfl rfl rfl ?_
    refine RD.q rfl rfl (Gd.none rfl) (pev_sound T (by conv => lhs; whnf; arg 1; whnf)) ?_
    refine RD.q rfl rfl (Gd.none rfl) (pev_sound T (by conv => lhs; whnf; arg 1; whnf)) ?_
    refine RD.skip rfl rfl rfl rfl ?_
    refine RD.skip rfl rfl rfl rfl ?_
    refine RD.skip rfl rfl rfl rfl ?_
    refine RD.skip rfl rfl rfl rfl ?_
    refine RD.skip rfl rfl rfl rfl ?_
    refine RD.skip rfl rfl rfl rfl ?_
    refine RD.skip rfl rfl rfl rfl ?_
    refine RD.skip rfl rfl rfl rfl ?_
    refine RD.skip rfl rfl rfl rfl ?_
    refine RD.skip rfl rfl rfl rfl ?_
    refine RD.skip rfl rfl rfl rfl ?_
    refine RD.q rfl rfl (Gd.none rfl) (pev_sound T (by conv => lhs; whnf; arg 1; whnf)) ?_
    refine RD.q rfl rfl (Gd.none rfl) (pev_sound T (by conv => lhs; whnf; arg 1; whnf)) ?_
    refine RD.skip rfl rfl rfl rfl ?_
    refine RD.skip rfl rfl rfl rfl ?_
    refine RD.skip rfl rfl rfl rfl ?_
    refine RD.skip rfl rfl rfl rfl ?_
    refine RD.skip rfl rfl rfl rfl ?_
    refine RD.skip rfl rfl rfl rfl ?_
    refine RD.skip rfl rfl rfl rfl ?_
    refine RD.skip rfl rfl rfl rfl ?_
    refine RD.skip rfl rfl rfl rfl ?_
    refine RD.skip rfl rfl rfl rfl ?_
    refine RD.skip rfl rfl rfl rfl ?_
    refine RD.q rfl rfl (Gd.none rfl) (pev_sound T (by conv => lhs; whnf; arg 1; whnf)) ?_
    refine RD.q rfl rfl (Gd.none rfl) (pev_sound T (by conv => lhs; whnf; arg 1; whnf)) ?_
    refine RD.skip rfl rfl rfl rfl ?_
    refine RD.skip rfl rfl rfl rfl ?_
    refine RD.skip rfl rfl rfl rfl ?_
    refine RD.skip rfl rfl rfl rfl ?_
    refine RD.skip rfl rfl rfl rfl ?_
    refine RD.skip rfl rfl rfl rfl ?_
    refine RD.skip rfl rfl rfl rfl ?_
    refine RD.skip rfl rfl rfl rfl ?_
    refine RD.skip rfl rfl rfl rfl ?_
    refine RD.skip rfl rfl rfl rfl ?_
    refine RD.skip rfl rfl rfl rfl ?_
    refine RD.q rfl rfl (Gd.none rfl) (pev_sound T (by conv => lhs; whnf; arg 1; whnf)) ?_
    refine RD.q rfl rfl (Gd.none rfl) (pev_sound T (by conv => lhs; whnf; arg 1; whnf)) ?_
    refine RD.k rfl rfl ?_
    refine hK2 _ _ _ ?_
    refine SW.ret ?_
    refine retQ.ret (H' := H) (RVs.tmp (by conv => lhs; whnf) RVs.nil) (fun w hw => Sat.sub (by repeat first | exact List.Sublist.refl _ | apply List.Sublist.cons_cons | apply List.Sublist.cons | exact List.sublist_append_right _ _ | refine List.Sublist.trans ?_ (List.sublist_append_right _ _)) hw) ?_
    clear hK2 K2 hK1 K1 hK0 K0
    have q1 : ((n : Int) - 1).toNat = es.length - 1 := by omega
    have q2 : ((n : Int) - 2).toNat = es.length - 2 := by omega
    have q3 : ((n : Int) - 3).toNat = es.length - 3 := by omega
    have q4 : ((n : Int) - 4).toNat = es.length - 4 := by omega
    have q5 : ((n : Int) - 5).toNat = es.length - 5 := by omega
    refine ⟨boolE ?_, rfl⟩
    simp only [q1, q2, q3, q4, q5] at *
    unfold full5
    first
      | (rw [eq_comm, decide_eq_false_iff_not]; omega)
      | (rw [Bool.eq_iff_iff]; simp only [decide_eq_true_eq]; omega)
    )
theorem padd {w0 : World} {H : List Chunk} (b5 b6 : Nat) (a : Option Addr) (L c : Nat) (o : List Int) (last run z : Int) (hL : L ≤ 200000) (r0 : 0 ≤ run) (r1 : run ≤ 65536) : SC Try.prog w0 22 #[.func (.func 24) #[.pointer (some ⟨b5, 0, none⟩)] #[], .int .u8 z, .pointer (some ⟨b6, 0, none⟩)] (.var b6 22 [.slice a L c] :: .row a L c 5 1 (o.map (.int .u8)) :: .var b5 40 [.int .u8 last, .int .i64 run] :: H) (fun v H' => ∃ a' c', H' = (.var b6 22 [.slice a' (L + 1) c'] :: .row a' (L + 1) c' 5 1 ((o ++ [z]).map (.int .u8)) :: .var b5 40 [.int .u8 z, .int .i64 (nxt last run z)] :: H)) := by
 refine SC.enter Try.func22 rfl (Nat.le_of_ble_eq_true rfl) ?_
 refine SW.seq_k ?_
 intro K0 hK0
 refine SW.region _ _ _ _ ?_
 refine RL.st ?_
 refine NV.p T ?_
 refine RL.st ?_
 refine NV.p T ?_
 refine RL.st ?_
 refine NV.call rfl rfl rfl fun24 rfl rfl (ssee b5 last run z r0 r1 _ (by repeat first | exact At.head _ _ | apply At.tail | apply At.app)) ?_
 rintro _ _ e; obtain rfl := e.symm
 refine RL.nil _ _ _ _ ?_
 refine hK0 _ _ _ ?_
 refine SW.region _ _ _ _ ?_
 refine RL.st ?_
 first
   | refine NV.lv1 T ?_
   | refine NV.load_elem T rfl rfl rfl rfl (by assumption) (by first | exact map_get _ _ (by omega) | assumption) ?_
 refine RL.st ?_
 refine NV.p T ?_
 refine RL.st ?_
 refine NV.build1 T rfl (by conv => lhs; whnf) rfl rfl (by conv => lhs; whnf) (by exact (rfl : _ = some [_])) ?_
 intro b10_0
 refine RL.st ?_
 first
   | refine NV.append1 T rfl rfl rfl rfl rfl rfl rfl rfl rfl rfl (by repeat first | exact At.head _ _ | assumption | exact At.put (by assumption) _ | apply At.tail | apply At.app) (ones rfl) (by first | omega | (unfold maxLen; omega)) (by first | omega | (show (_ + _) * 1 ≤ 140737488355328; omega)) ?_
   | refine NV.append T rfl rfl rfl rfl rfl rfl rfl rfl rfl rfl (by repeat first | exact At.head _ _ | assumption | exact At.put (by assumption) _ | apply At.tail | apply At.app) (by assumption) (ones rfl) (by first | omega | (unfold maxLen; omega)) (by first | omega | (show (_ + _) * 1 ≤ 140737488355328; omega)) ?_
 intro a0_ c0_
 refine RL.st ?_
 first
   | refine NV.store_var1 T rfl rfl rfl rfl (by conv => lhs; whnf) rfl (by repeat first | exact At.head _ _ | assumption | exact At.put (by assumption) _ | apply At.tail | apply At.app) rfl rfl ?_
   | refine NV.store_var T rfl rfl rfl (by exact (rfl : _ = [_])) rfl rfl (by repeat first | exact At.head _ _ | assumption | exact At.put (by assumption) _ | apply At.tail | apply At.app) (Nat.le_of_ble_eq_true rfl) rfl ?_
   | refine NV.store_elem T rfl rfl rfl rfl (by conv => lhs; whnf) rfl (by repeat first | exact At.head _ _ | assumption | exact At.put (by assumption) _ | apply At.tail | apply At.app) (by omega) ?_
 refine RL.nil _ _ _ _ ?_
 try simp only [thenQ, blockQ, Nat.beq_refl, cond_true]
 refine retQ.norm RVs.nil (fun w hw => hw) ?_
 clear hK0 K0
 exact ⟨a0_, c0_, by simp⟩
theorem sput_bad {w0 : World} {H : List Chunk} (sa : Option Addr) (n c : Nat) (es : List Int) (hR : Rd w0 H sa n c 1 (es.map (.int .u8))) (hn : n = es.length) (hm : n ≤ 140737488351232) (hc : chk es ≠ 0) : SC Try.prog w0 11 #[.slice sa n c] H (fun v H' => v = .tuple #[.slice none 0 0, .int .i64 2] ∧ H' = H) := by
 refine SC.enter Try.func11 rfl (Nat.le_of_ble_eq_true rfl) ?_
 refine SW.seq_k ?_
 intro K0 hK0
 refine SW.region _ _ _ _ ?_
 refine RL.st ?_
 refine NV.p T ?_
 refine RL.st ?_
 refine NV.p T ?_
 refine RL.nil _ _ _ _ ?_
 refine hK0 _ _ _ ?_
 refine SW.seq_k ?_
 intro K1 hK1
 refine SW.seq_k ?_
 intro K2 hK2
 refine SW.region _ _ _ _ ?_
 refine RL.st ?_
 refine NV.p T ?_
 refine RL.st ?_
 refine NV.call rfl rfl rfl fun18 rfl rfl (check sa n c es hR hn hm) ?_
 rintro _ _ ⟨rfl, e⟩; obtain rfl := e.symm
 refine RL.st ?_
 refine NV.p T ?_
 refine RL.nil _ _ _ _ ?_
 refine hK2 _ _ _ ?_
 refine SW.seq_k ?_
 intro K3 hK3
 refine SW.region _ _ _ _ ?_
 refine RL.st ?_
 refine NV.p T ?_
 refine RL.st ?_
 refine NV.p T ?_
 refine RL.nil _ _ _ _ ?_
 refine hK3 _ _ _ ?_
 refine SW.cond rfl (fun hc0 => ?_) (fun hc0 => ?_)
 ·try simp only [decide_eq_true_eq, decide_eq_false_iff_not, Bool.not_eq_true', Bool.not_eq_false', Int.not_lt, Int.not_le, Int.toNat_natCast] at hc0
  first
   | (exfalso; clear hK3 K3; clear hK2 K2; clear hK1 K1; clear hK0 K0; first | omega | contradiction)
   | (
    refine SW.seq_k ?_
    intro K4 hK4
    refine SW.region _ _ _ _ ?_
    refine RL.st ?_
    refine NV.p T ?_
    refine RL.st ?_
    refine NV.p T ?_
    refine RL.st ?_
    refine NV.p T ?_
    refine RL.nil _ _ _ _ ?_
    refine hK4 _ _ _ ?_
    refine SW.ret ?_
    refine retQ.ret (H' := H) (RVs.tmp (by conv => lhs; whnf) (RVs.tmp (by conv => lhs; whnf) RVs.nil)) (fun w hw => Sat.sub (by repeat first | exact List.Sublist.refl _ | apply List.Sublist.cons_cons | apply List.Sublist.cons | exact List.sublist_append_right _ _ | refine List.Sublist.trans ?_ (List.sublist_append_right _ _)) hw) ?_
    clear hK4 K4 hK3 K3 hK2 K2 hK1 K1 hK0 K0
    refine ⟨?_, rfl⟩; rw [show chk es = 2 from (chk_or es).resolve_left hc]; rfl
    )
 ·try simp only [decide_eq_true_eq, decide_eq_false_iff_not, Bool.not_eq_true', Bool.not_eq_false', Int.not_lt, Int.not_le, Int.toNat_natCast] at hc0
  exfalso; clear hK3 K3; clear hK2 K2; clear hK1 K1; clear hK0 K0; first | omega | contradiction
theorem sput_long {w0 : World} {H : List Chunk} (sa : Option Addr) (n c : Nat) (es : List Int) (hR : Rd w0 H sa n c 1 (es.map (.int .u8))) (hn : n = es.length) (hm : n ≤ 140737488351232) (hc : chk es = 0) (h5 : n ≤ 65536) (hz : Bit es) (q : Nat) (hq : IntKind.i64.wrap ((n : Int).tdiv 4) = (q : Int)) (hq2 : q ≤ 65536) (hst : 65536 < (stuffed es).length) : SC Try.prog w0 11 #[.slice sa n c] H (fun v H' => v = .tuple #[.slice none 0 0, .int .i64 2] ∧ H' = H) := by
 refine SC.enter Try.func11 rfl (Nat.le_of_ble_eq_true rfl) ?_
 refine SW.seq_k ?_
 intro K0 hK0
 refine SW.region _ _ _ _ ?_
 refine RL.st ?_
 refine NV.p T ?_
 refine RL.st ?_
 refine NV.p T ?_
 refine RL.nil _ _ _ _ ?_
 refine hK0 _ _ _ ?_
 refine SW.seq_k ?_
 intro K1 hK1
 refine SW.seq_k ?_
 intro K2 hK2
 refine SW.region _ _ _ _ ?_
 refine RL.st ?_
 refine NV.p T ?_
 refine RL.st ?_
 refine NV.call rfl rfl rfl fun18 rfl rfl ((check sa n c es hR hn hm).mono (fun v H' h => by rw [hc] at h; exact h)) ?_
 rintro _ _ ⟨rfl, e⟩; obtain rfl := e.symm
 refine RL.st ?_
 refine NV.p T ?_
 refine RL.nil _ _ _ _ ?_
 refine hK2 _ _ _ ?_
 refine SW.seq_k ?_
 intro K3 hK3
 refine SW.region _ _ _ _ ?_
 refine RL.st ?_
 refine NV.p T ?_
 refine RL.st ?_
 refine NV.p T ?_
 refine RL.nil _ _ _ _ ?_
 refine hK3 _ _ _ ?_
 refine SW.cond rfl (fun hc0 => ?_) (fun hc0 => ?_)
 ·try simp only [decide_eq_true_eq, decide_eq_false_iff_not, Bool.not_eq_true', Bool.not_eq_false', Int.not_lt, Int.not_le, Int.toNat_natCast] at hc0
  first
   | (exfalso; clear hK3 K3; clear hK2 K2; clear hK1 K1; clear hK0 K0; first | omega | contradiction)
   | (
    refine SW.seq_k ?_
    intro K4 hK4
    refine SW.region _ _ _ _ ?_
    refine RL.st ?_
    refine NV.p T ?_
    refine RL.st ?_
    refine NV.p T ?_
    refine RL.st ?_
    refine NV.p T ?_
    refine RL.nil _ _ _ _ ?_
    refine hK4 _ _ _ ?_
    refine SW.ret ?_
    refine retQ.ret (H' := H) (RVs.tmp (by conv => lhs; whnf) (RVs.tmp (by conv => lhs; whnf) RVs.nil)) (fun w hw => Sat.sub (by repeat first | exact List.Sublist.refl _ | apply List.Sublist.cons_cons | apply List.Sublist.cons | exact List.sublist_append_right _ _ | refine List.Sublist.trans ?_ (List.sublist_append_right _ _)) hw) ?_
    clear hK4 K4 hK3 K3 hK2 K2 hK1 K1 hK0 K0
    exact ⟨rfl, rfl⟩
    )
 ·try simp only [decide_eq_true_eq, decide_eq_false_iff_not, Bool.not_eq_true', Bool.not_eq_false', Int.not_lt, Int.not_le, Int.toNat_natCast] at hc0
  first
   | (exfalso; clear hK3 K3; clear hK2 K2; clear hK1 K1; clear hK0 K0; first | omega | contradiction)
   | (
    refine SW.skip ?_
    refine hK1 _ _ _ ?_
    refine SW.seq_k ?_
    intro K5 hK5
    refine SW.region _ _ _ _ ?_
    refine RL.st ?_
    refine NV.alloc T rfl rfl rfl (by exact (rfl : _ = [_, _])) ?_
    intro b5_0
    refine RL.nil _ _ _ _ ?_
    refine hK5 _ _ _ ?_
    refine SW.seq_k ?_
    intro K6 hK6
    refine SW.region _ _ _ _ ?_
    refine RL.st ?_
    refine NV.p T ?_
    refine RL.st ?_
    refine NV.p T ?_
    refine RL.st ?_
    refine NV.p T ?_
    refine RL.st ?_
    refine NV.p T ?_
    refine RL.st ?_
    refine NV.quo rfl rfl rfl (by omega) hq ?_
    refine RL.st ?_
    first | refine NV.arith rfl rfl rfl rfl (by omega) (by omega) ?_ | refine NV.p T ?_
    refine RL.st ?_
    refine NV.makeSlice (n := 0) (c := n + q) T rfl rfl rfl rfl rfl rfl rfl rfl (by omega) (by unfold maxLen; omega) (by show 1 * (n + q) ≤ _; omega) ?_
    intro br
    refine RL.st ?_
    refine NV.alloc T rfl rfl rfl (by exact (rfl : _ = [_])) ?_
    intro b6_1
    refine RL.st ?_
    refine NV.store_var1 T rfl rfl rfl rfl (by conv => lhs; whnf) rfl (by repeat first | exact At.head _ _ | assumption | exact At.put (by assumption) _ | apply At.tail | apply At.app) rfl (by exact (rfl : _ = [_])) ?_
    refine RL.nil _ _ _ _ ?_
    refine hK6 _ _ _ ?_
    refine SW.seq_k ?_
    intro K7 hK7
    refine SW.region _ _ _ _ ?_
    refine RL.st ?_
    refine NV.p T ?_
    refine RL.st ?_
    refine NV.p T ?_
    refine RL.nil _ _ _ _ ?_
    refine hK7 _ _ _ ?_
    refine SW.seq_k ?_
    intro K8 hK8
    refine SW.seq_k ?_
    intro K9 hK9
    refine SW.region _ _ _ _ ?_
    refine RL.st ?_
    refine NV.p T ?_
    refine RL.st ?_
    refine NV.p T ?_
    refine RL.st ?_
    refine NV.p T ?_
    refine RL.nil _ _ _ _ ?_
    refine hK9 _ _ _ ?_
    refine SW.block ?_
    refine SW.loopM (fun frB mm fr ds HH => ∃ (k : Nat) (sr : Option Addr) (L cr : Nat) (o : List Int), mm = n - k ∧ (k ≤ n ∧ (L = o.length ∧ SI es k o)) ∧ FrIs [9, 25, 26, 27, 28, 29, 30, 31, 32, 33, 34, 35, 36, 37, 38, 39, 40] frB fr [(25, .int .i64 k)] ∧ ds = [] ∧ HH = (.var b6_1 22 [.slice sr L cr] :: .row sr L cr 5 1 (o.map (.int .u8)) :: .var b5_0 40 [.int .u8 (st o).1, .int .i64 (st o).2] :: H)) (n := n - 0) ?_ ?_
    ·exact ⟨0, _, 0, _, [], rfl, ⟨Nat.zero_le _, ⟨rfl, SI.start⟩⟩, (.cons rfl (.nil (by repeat first | exact Mx.refl | exact Mx.mix | refine Mx.put rfl ?_ | refine Mx.upd rfl ?_ | refine Mx.updl rfl ?_ | refine Mx.fin rfl ?_ | refine Mx.inner rfl ?_ | refine Mx.none ?_))), rfl, rfl⟩
    ·rintro mm fr ds HH ⟨k, sr, L, cr, o, rfl, ⟨hk, ⟨hL, hI⟩⟩, hFr, rfl, eHH⟩
     obtain rfl := eHH.symm
     obtain ⟨frU, rfl⟩ := hFr.eq
     clear hFr
     have hkn := hI.kn
     have hlen := hI.len
     have h5' := hI.r5
     have hr0 := (st_range o).1
     have hzk := hz k
     have hlb := st_bit o hI.bits
     have hn1 := nxt_bd (last := (st o).1) (b := 1 - (st o).1) hr0 h5'
     refine SW.seq_k ?_
     intro K10 hK10
     refine SW.region _ _ _ _ ?_
     refine RL.st ?_
     refine NV.p T ?_
     refine RL.nil _ _ _ _ ?_
     refine hK10 _ _ _ ?_
     refine SW.seq_k ?_
     intro K11 hK11
     refine SW.cond rfl (fun hc1 => ?_) (fun hc1 => ?_)
     ·try simp only [decide_eq_true_eq, decide_eq_false_iff_not, Bool.not_eq_true', Bool.not_eq_false', Int.not_lt, Int.not_le, Int.toNat_natCast] at hc1
      first
       | (exfalso; clear hK11 K11; clear hK10 K10; clear hK9 K9; clear hK8 K8; clear hK7 K7; clear hK6 K6; clear hK5 K5; clear hK3 K3; clear hK2 K2; clear hK1 K1; clear hK0 K0; first | omega | contradiction)
       | (
        refine SW.skip ?_
        refine hK11 _ _ _ ?_
        refine SW.seq_k ?_
        intro K12 hK12
        refine SW.block ?_
        refine SW.seq_k ?_
        intro K13 hK13
        refine SW.region _ _ _ _ ?_
        refine RL.st ?_
        first
          | refine NV.index_array T rfl rfl rfl rfl rfl (by omega) (by omega) ?_
          | refine NV.index_slice T rfl rfl rfl rfl rfl hR.cons.cons.cons (by omega) (by omega) ?_
        refine RL.st ?_
        refine NV.load_elem T rfl rfl rfl rfl hR.cons.cons.cons (by first | exact map_get _ _ (by omega) | assumption) ?_
        refine RL.st ?_
        refine NV.p T ?_
        refine RL.nil _ _ _ _ ?_
        refine hK13 _ _ _ ?_
        refine SW.seq_k ?_
        intro K14 hK14
        refine SW.seq_k ?_
        intro K15 hK15
        refine SW.region _ _ _ _ ?_
        refine RL.st ?_
        refine NV.call rfl rfl rfl fun23 rfl rfl (sfull b5_0 (st o).1 (st o).2 _ (by repeat first | exact At.head _ _ | apply At.tail | apply At.app)) ?_
        rintro _ _ ⟨rfl, e⟩; obtain rfl := e.symm
        refine RL.nil _ _ _ _ ?_
        refine hK15 _ _ _ ?_
        refine SW.cond rfl (fun hc2 => ?_) (fun hc2 => ?_)
        ·try simp only [decide_eq_true_eq, decide_eq_false_iff_not, Bool.not_eq_true', Bool.not_eq_false', Int.not_lt, Int.not_le, Int.toNat_natCast] at hc2
         first
          | (exfalso; clear hK15 K15; clear hK14 K14; clear hK13 K13; clear hK12 K12; clear hK11 K11; clear hK10 K10; clear hK9 K9; clear hK8 K8; clear hK7 K7; clear hK6 K6; clear hK5 K5; clear hK3 K3; clear hK2 K2; clear hK1 K1; clear hK0 K0; first | omega | contradiction)
          | (
           refine SW.region _ _ _ _ ?_
           refine RL.st ?_
           refine NV.p T ?_
           refine RL.st ?_
           refine NV.p T ?_
           refine RL.st ?_
           refine NV.p T ?_
           refine RL.st ?_
           refine NV.lv1 T ?_
           refine RL.st ?_
           first | refine NV.arith_u8 rfl rfl rfl rfl (by omega) (by omega) ?_ | refine NV.p T ?_
           refine RL.st ?_
           refine NV.call rfl rfl rfl fun22 rfl rfl (padd _ _ _ _ _ _ _ _ (1 - (st o).1) (by omega) (by omega) (by omega)) ?_
           rintro _ _ ⟨a1, c1, e⟩; obtain rfl := e.symm
           refine RL.nil _ _ _ _ ?_
           refine hK14 _ _ _ ?_
           refine SW.region _ _ _ _ ?_
           refine RL.st ?_
           refine NV.p T ?_
           refine RL.st ?_
           refine NV.p T ?_
           refine RL.st ?_
           refine NV.p T ?_
           refine RL.st ?_
           refine NV.call rfl rfl rfl fun22 rfl rfl (padd _ _ _ _ _ _ _ _ (es.getD k 0) (by omega) (by omega) (by omega)) ?_
           rintro _ _ ⟨a2, c2, e⟩; obtain rfl := e.symm
           refine RL.nil _ _ _ _ ?_
           refine hK12 _ _ _ ?_
           refine SW.region _ _ _ _ ?_
           refine RL.st ?_
           first | refine NV.arith rfl rfl rfl rfl (by omega) (by omega) ?_ | refine NV.p T ?_
           refine RL.st ?_
           refine NV.p T ?_
           refine RL.nil _ _ _ _ ?_
           first
             | exact ⟨n - (k + 1), (by omega), k + 1, a2, L + 1 + 1, c2, o ++ [1 - (st o).1] ++ [es.getD k 0], (by rfl), ⟨by omega, ⟨by simp; omega, hI.stuff (by omega) hzk (by assumption)⟩⟩, (.cons rfl (.nil (by repeat first | exact Mx.refl | exact Mx.mix | refine Mx.put rfl ?_ | refine Mx.upd rfl ?_ | refine Mx.updl rfl ?_ | refine Mx.fin rfl ?_ | refine Mx.inner rfl ?_ | refine Mx.none ?_))), rfl, (by rw [st2])⟩
             | exact ⟨n - (k + 1), (by omega), k + 1, a2, L + 1, c2, o ++ [es.getD k 0], (by rfl), ⟨by omega, ⟨by simp; omega, hI.see (by omega) hzk (by assumption)⟩⟩, (.cons rfl (.nil (by repeat first | exact Mx.refl | exact Mx.mix | refine Mx.put rfl ?_ | refine Mx.upd rfl ?_ | refine Mx.updl rfl ?_ | refine Mx.fin rfl ?_ | refine Mx.inner rfl ?_ | refine Mx.none ?_))), rfl, (by rw [st_app])⟩
           )
        ·try simp only [decide_eq_true_eq, decide_eq_false_iff_not, Bool.not_eq_true', Bool.not_eq_false', Int.not_lt, Int.not_le, Int.toNat_natCast] at hc2
         first
          | (exfalso; clear hK15 K15; clear hK14 K14; clear hK13 K13; clear hK12 K12; clear hK11 K11; clear hK10 K10; clear hK9 K9; clear hK8 K8; clear hK7 K7; clear hK6 K6; clear hK5 K5; clear hK3 K3; clear hK2 K2; clear hK1 K1; clear hK0 K0; first | omega | contradiction)
          | (
           refine SW.skip ?_
           refine hK14 _ _ _ ?_
           refine SW.region _ _ _ _ ?_
           refine RL.st ?_
           refine NV.p T ?_
           refine RL.st ?_
           refine NV.p T ?_
           refine RL.st ?_
           refine NV.p T ?_
           refine RL.st ?_
           refine NV.call rfl rfl rfl fun22 rfl rfl (padd _ _ _ _ _ _ _ _ (es.getD k 0) (by omega) (by omega) (by omega)) ?_
           rintro _ _ ⟨a2, c2, e⟩; obtain rfl := e.symm
           refine RL.nil _ _ _ _ ?_
           refine hK12 _ _ _ ?_
           refine SW.region _ _ _ _ ?_
           refine RL.st ?_
           first | refine NV.arith rfl rfl rfl rfl (by omega) (by omega) ?_ | refine NV.p T ?_
           refine RL.st ?_
           refine NV.p T ?_
           refine RL.nil _ _ _ _ ?_
           first
             | exact ⟨n - (k + 1), (by omega), k + 1, a2, L + 1 + 1, c2, o ++ [1 - (st o).1] ++ [es.getD k 0], (by rfl), ⟨by omega, ⟨by simp; omega, hI.stuff (by omega) hzk (by assumption)⟩⟩, (.cons rfl (.nil (by repeat first | exact Mx.refl | exact Mx.mix | refine Mx.put rfl ?_ | refine Mx.upd rfl ?_ | refine Mx.updl rfl ?_ | refine Mx.fin rfl ?_ | refine Mx.inner rfl ?_ | refine Mx.none ?_))), rfl, (by rw [st2])⟩
             | exact ⟨n - (k + 1), (by omega), k + 1, a2, L + 1, c2, o ++ [es.getD k 0], (by rfl), ⟨by omega, ⟨by simp; omega, hI.see (by omega) hzk (by assumption)⟩⟩, (.cons rfl (.nil (by repeat first | exact Mx.refl | exact Mx.mix | refine Mx.put rfl ?_ | refine Mx.upd rfl ?_ | refine Mx.updl rfl ?_ | refine Mx.fin rfl ?_ | refine Mx.inner rfl ?_ | refine Mx.none ?_))), rfl, (by rw [st_app])⟩
           )
        )
     ·try simp only [decide_eq_true_eq, decide_eq_false_iff_not, Bool.not_eq_true', Bool.not_eq_false', Int.not_lt, Int.not_le, Int.toNat_natCast] at hc1
      first
       | (exfalso; clear hK11 K11; clear hK10 K10; clear hK9 K9; clear hK8 K8; clear hK7 K7; clear hK6 K6; clear hK5 K5; clear hK3 K3; clear hK2 K2; clear hK1 K1; clear hK0 K0; first | omega | contradiction)
       | (
        refine SW.exit ?_
        refine hK8 _ _ _ ?_
        refine SW.seq_k ?_
        intro K16 hK16
        refine SW.seq_k ?_
        intro K17 hK17
        have hdone := hI.done (by omega)
        rw [hdone] at hL
        refine SW.region _ _ _ _ ?_
        refine RL.st ?_
        refine NV.lv1 T ?_
        refine RL.st ?_
        refine NV.p T ?_
        refine RL.st ?_
        refine NV.p T ?_
        refine RL.nil _ _ _ _ ?_
        refine hK17 _ _ _ ?_
        refine SW.cond rfl (fun hc3 => ?_) (fun hc3 => ?_)
        ·try simp only [decide_eq_true_eq, decide_eq_false_iff_not, Bool.not_eq_true', Bool.not_eq_false', Int.not_lt, Int.not_le, Int.toNat_natCast] at hc3
         first
          | (exfalso; clear hK17 K17; clear hK16 K16; clear hK11 K11; clear hK10 K10; clear hK9 K9; clear hK8 K8; clear hK7 K7; clear hK6 K6; clear hK5 K5; clear hK3 K3; clear hK2 K2; clear hK1 K1; clear hK0 K0; first | omega | contradiction)
          | (
           refine SW.seq_k ?_
           intro K18 hK18
           refine SW.region _ _ _ _ ?_
           refine RL.st ?_
           refine NV.p T ?_
           refine RL.st ?_
           refine NV.p T ?_
           refine RL.nil _ _ _ _ ?_
           refine hK18 _ _ _ ?_
           refine SW.ret ?_
           refine retQ.ret (H' := H) (RVs.tmp (by conv => lhs; whnf) (RVs.tmp (by conv => lhs; whnf) RVs.nil)) (fun w hw => Sat.sub (by repeat first | exact List.Sublist.refl _ | apply List.Sublist.cons_cons | apply List.Sublist.cons | exact List.sublist_append_right _ _ | refine List.Sublist.trans ?_ (List.sublist_append_right _ _)) hw) ?_
           clear hK18 K18 hK17 K17 hK16 K16 hK11 K11 hK10 K10 hK9 K9 hK8 K8 hK7 K7 hK6 K6 hK5 K5 hK3 K3 hK2 K2 hK1 K1 hK0 K0
           exact ⟨rfl, rfl⟩
           )
        ·try simp only [decide_eq_true_eq, decide_eq_false_iff_not, Bool.not_eq_true', Bool.not_eq_false', Int.not_lt, Int.not_le, Int.toNat_natCast] at hc3
         first
          | (exfalso; clear hK17 K17; clear hK16 K16; clear hK11 K11; clear hK10 K10; clear hK9 K9; clear hK8 K8; clear hK7 K7; clear hK6 K6; clear hK5 K5; clear hK3 K3; clear hK2 K2; clear hK1 K1; clear hK0 K0; first | omega | contradiction)
          | (
           refine SW.skip ?_
           refine hK16 _ _ _ ?_
           refine SW.seq_k ?_
           intro K19 hK19
           refine SW.region _ _ _ _ ?_
           refine RL.st ?_
           refine NV.lv1 T ?_
           refine RL.st ?_
           refine NV.p T ?_
           refine RL.st ?_
           refine NV.p T ?_
           refine RL.nil _ _ _ _ ?_
           refine hK19 _ _ _ ?_
           refine SW.ret ?_
           refine retQ.ret (H' := H) (RVs.tmp (by conv => lhs; whnf) (RVs.tmp (by conv => lhs; whnf) RVs.nil)) (fun w hw => Sat.sub (by repeat first | exact List.Sublist.refl _ | apply List.Sublist.cons_cons | apply List.Sublist.cons | exact List.sublist_append_right _ _ | refine List.Sublist.trans ?_ (List.sublist_append_right _ _)) hw) ?_
           clear hK19 K19 hK17 K17 hK16 K16 hK11 K11 hK10 K10 hK9 K9 hK8 K8 hK7 K7 hK6 K6 hK5 K5 hK3 K3 hK2 K2 hK1 K1 hK0 K0
           exact ⟨rfl, rfl⟩
           )
        )
    )
theorem sput_ok {w0 : World} {H : List Chunk} (sa : Option Addr) (n c : Nat) (es : List Int) (hR : Rd w0 H sa n c 1 (es.map (.int .u8))) (hn : n = es.length) (hm : n ≤ 140737488351232) (hc : chk es = 0) (h5 : n ≤ 65536) (hz : Bit es) (q : Nat) (hq : IntKind.i64.wrap ((n : Int).tdiv 4) = (q : Int)) (hq2 : q ≤ 65536) (hst : (stuffed es).length ≤ 65536) : SC Try.prog w0 11 #[.slice sa n c] H (fun v H' => ∃ sr cr, v = .tuple #[.slice sr (stuffed es).length cr, .int .i64 0] ∧ H' = .row sr (stuffed es).length cr 5 1 ((stuffed es).map (.int .u8)) :: H) := by
 refine SC.enter Try.func11 rfl (Nat.le_of_ble_eq_true rfl) ?_
 refine SW.seq_k ?_
 intro K0 hK0
 refine SW.region _ _ _ _ ?_
 refine RL.st ?_
 refine NV.p T ?_
 refine RL.st ?_
 refine NV.p T ?_
 refine RL.nil _ _ _ _ ?_
 refine hK0 _ _ _ ?_
 refine SW.seq_k ?_
 intro K1 hK1
 refine SW.seq_k ?_
 intro K2 hK2
 refine SW.region _ _ _ _ ?_
 refine RL.st ?_
 refine NV.p T ?_
 refine RL.st ?_
 refine NV.call rfl rfl rfl fun18 rfl rfl ((check sa n c es hR hn hm).mono (fun v H' h => by rw [hc] at h; exact h)) ?_
 rintro _ _ ⟨rfl, e⟩; obtain rfl := e.symm
 refine RL.st ?_
 refine NV.p T ?_
 refine RL.nil _ _ _ _ ?_
 refine hK2 _ _ _ ?_
 refine SW.seq_k ?_
 intro K3 hK3
 refine SW.region _ _ _ _ ?_
 refine RL.st ?_
 refine NV.p T ?_
 refine RL.st ?_
 refine NV.p T ?_
 refine RL.nil _ _ _ _ ?_
 refine hK3 _ _ _ ?_
 refine SW.cond rfl (fun hc0 => ?_) (fun hc0 => ?_)
 ·try simp only [decide_eq_true_eq, decide_eq_false_iff_not, Bool.not_eq_true', Bool.not_eq_false', Int.not_lt, Int.not_le, Int.toNat_natCast] at hc0
  first
   | (exfalso; clear hK3 K3; clear hK2 K2; clear hK1 K1; clear hK0 K0; first | omega | contradiction)
   | (
    refine SW.seq_k ?_
    intro K4 hK4
    refine SW.region _ _ _ _ ?_
    refine RL.st ?_
    refine NV.p T ?_
    refine RL.st ?_
    refine NV.p T ?_
    refine RL.st ?_
    refine NV.p T ?_
    refine RL.nil _ _ _ _ ?_
    refine hK4 _ _ _ ?_
    refine SW.ret ?_
    refine retQ.ret (H' := (.row sr L cr 5 1 (o.map (.int .u8)) :: H)) (RVs.tmp (by conv => lhs; whnf) (RVs.tmp (by conv => lhs; whnf) RVs.nil)) (fun w hw => Sat.sub (by repeat first | exact List.Sublist.refl _ | apply List.Sublist.cons_cons | apply List.Sublist.cons | exact List.sublist_append_right _ _ | refine List.Sublist.trans ?_ (List.sublist_append_right _ _)) hw) ?_
    clear hK4 K4 hK3 K3 hK2 K2 hK1 K1 hK0 K0
    rw [hL, hdone]
    exact ⟨_, _, rfl, rfl⟩
    )
 ·try simp only [decide_eq_true_eq, decide_eq_false_iff_not, Bool.not_eq_true', Bool.not_eq_false', Int.not_lt, Int.not_le, Int.toNat_natCast] at hc0
  first
   | (exfalso; clear hK3 K3; clear hK2 K2; clear hK1 K1; clear hK0 K0; first | omega | contradiction)
   | (
    refine SW.skip ?_
    refine hK1 _ _ _ ?_
    refine SW.seq_k ?_
    intro K5 hK5
    refine SW.region _ _ _ _ ?_
    refine RL.st ?_
    refine NV.alloc T rfl rfl rfl (by exact (rfl : _ = [_, _])) ?_
    intro b5_0
    refine RL.nil _ _ _ _ ?_
    refine hK5 _ _ _ ?_
    refine SW.seq_k ?_
    intro K6 hK6
    refine SW.region _ _ _ _ ?_
    refine RL.st ?_
    refine NV.p T ?_
    refine RL.st ?_
    refine NV.p T ?_
    refine RL.st ?_
    refine NV.p T ?_
    refine RL.st ?_
    refine NV.p T ?_
    refine RL.st ?_
    refine NV.quo rfl rfl rfl (by omega) hq ?_
    refine RL.st ?_
    first | refine NV.arith rfl rfl rfl rfl (by omega) (by omega) ?_ | refine NV.p T ?_
    refine RL.st ?_
    refine NV.makeSlice (n := 0) (c := n + q) T rfl rfl rfl rfl rfl rfl rfl rfl (by omega) (by unfold maxLen; omega) (by show 1 * (n + q) ≤ _; omega) ?_
    intro br
    refine RL.st ?_
    refine NV.alloc T rfl rfl rfl (by exact (rfl : _ = [_])) ?_
    intro b6_1
    refine RL.st ?_
    refine NV.store_var1 T rfl rfl rfl rfl (by conv => lhs; whnf) rfl (by repeat first | exact At.head _ _ | assumption | exact At.put (by assumption) _ | apply At.tail | apply At.app) rfl (by exact (rfl : _ = [_])) ?_
    refine RL.nil _ _ _ _ ?_
    refine hK6 _ _ _ ?_
    refine SW.seq_k ?_
    intro K7 hK7
    refine SW.region _ _ _ _ ?_
    refine RL.st ?_
    refine NV.p T ?_
    refine RL.st ?_
    refine NV.p T ?_
    refine RL.nil _ _ _ _ ?_
    refine hK7 _ _ _ ?_
    refine SW.seq_k ?_
    intro K8 hK8
    refine SW.seq_k ?_
    intro K9 hK9
    refine SW.region _ _ _ _ ?_
    refine RL.st ?_
    refine NV.p T ?_
    refine RL.st ?_
    refine NV.p T ?_
    refine RL.st ?_
    refine NV.p T ?_
    refine RL.nil _ _ _ _ ?_
    refine hK9 _ _ _ ?_
    refine SW.block ?_
    refine SW.loopM (fun frB mm fr ds HH => ∃ (k : Nat) (sr : Option Addr) (L cr : Nat) (o : List Int), mm = n - k ∧ (k ≤ n ∧ (L = o.length ∧ SI es k o)) ∧ FrIs [9, 25, 26, 27, 28, 29, 30, 31, 32, 33, 34, 35, 36, 37, 38, 39, 40] frB fr [(25, .int .i64 k)] ∧ ds = [] ∧ HH = (.var b6_1 22 [.slice sr L cr] :: .row sr L cr 5 1 (o.map (.int .u8)) :: .var b5_0 40 [.int .u8 (st o).1, .int .i64 (st o).2] :: H)) (n := n - 0) ?_ ?_
    ·exact ⟨0, _, 0, _, [], rfl, ⟨Nat.zero_le _, ⟨rfl, SI.start⟩⟩, (.cons rfl (.nil (by repeat first | exact Mx.refl | exact Mx.mix | refine Mx.put rfl ?_ | refine Mx.upd rfl ?_ | refine Mx.updl rfl ?_ | refine Mx.fin rfl ?_ | refine Mx.inner rfl ?_ | refine Mx.none ?_))), rfl, rfl⟩
    ·rintro mm fr ds HH ⟨k, sr, L, cr, o, rfl, ⟨hk, ⟨hL, hI⟩⟩, hFr, rfl, eHH⟩
     obtain rfl := eHH.symm
     obtain ⟨frU, rfl⟩ := hFr.eq
     clear hFr
     have hkn := hI.kn
     have hlen := hI.len
     have h5' := hI.r5
     have hr0 := (st_range o).1
     have hzk := hz k
     have hlb := st_bit o hI.bits
     have hn1 := nxt_bd (last := (st o).1) (b := 1 - (st o).1) hr0 h5'
     refine SW.seq_k ?_
     intro K10 hK10
     refine SW.region _ _ _ _ ?_
     refine RL.st ?_
     refine NV.p T ?_
     refine RL.nil _ _ _ _ ?_
     refine hK10 _ _ _ ?_
     refine SW.seq_k ?_
     intro K11 hK11
     refine SW.cond rfl (fun hc1 => ?_) (fun hc1 => ?_)
     ·try simp only [decide_eq_true_eq, decide_eq_false_iff_not, Bool.not_eq_true', Bool.not_eq_false', Int.not_lt, Int.not_le, Int.toNat_natCast] at hc1
      first
       | (exfalso; clear hK11 K11; clear hK10 K10; clear hK9 K9; clear hK8 K8; clear hK7 K7; clear hK6 K6; clear hK5 K5; clear hK3 K3; clear hK2 K2; clear hK1 K1; clear hK0 K0; first | omega | contradiction)
       | (
        refine SW.skip ?_
        refine hK11 _ _ _ ?_
        refine SW.seq_k ?_
        intro K12 hK12
        refine SW.block ?_
        refine SW.seq_k ?_
        intro K13 hK13
        refine SW.region _ _ _ _ ?_
        refine RL.st ?_
        first
          | refine NV.index_array T rfl rfl rfl rfl rfl (by omega) (by omega) ?_
          | refine NV.index_slice T rfl rfl rfl rfl rfl hR.cons.cons.cons (by omega) (by omega) ?_
        refine RL.st ?_
        refine NV.load_elem T rfl rfl rfl rfl hR.cons.cons.cons (by first | exact map_get _ _ (by omega) | assumption) ?_
        refine RL.st ?_
        refine NV.p T ?_
        refine RL.nil _ _ _ _ ?_
        refine hK13 _ _ _ ?_
        refine SW.seq_k ?_
        intro K14 hK14
        refine SW.seq_k ?_
        intro K15 hK15
        refine SW.region _ _ _ _ ?_
        refine RL.st ?_
        refine NV.call rfl rfl rfl fun23 rfl rfl (sfull b5_0 (st o).1 (st o).2 _ (by repeat first | exact At.head _ _ | apply At.tail | apply At.app)) ?_
        rintro _ _ ⟨rfl, e⟩; obtain rfl := e.symm
        refine RL.nil _ _ _ _ ?_
        refine hK15 _ _ _ ?_
        refine SW.cond rfl (fun hc2 => ?_) (fun hc2 => ?_)
        ·try simp only [decide_eq_true_eq, decide_eq_false_iff_not, Bool.not_eq_true', Bool.not_eq_false', Int.not_lt, Int.not_le, Int.toNat_natCast] at hc2
         first
          | (exfalso; clear hK15 K15; clear hK14 K14; clear hK13 K13; clear hK12 K12; clear hK11 K11; clear hK10 K10; clear hK9 K9; clear hK8 K8; clear hK7 K7; clear hK6 K6; clear hK5 K5; clear hK3 K3; clear hK2 K2; clear hK1 K1; clear hK0 K0; first | omega | contradiction)
          | (
           refine SW.region _ _ _ _ ?_
           refine RL.st ?_
           refine NV.p T ?_
           refine RL.st ?_
           refine NV.p T ?_
           refine RL.st ?_
           refine NV.p T ?_
           refine RL.st ?_
           refine NV.lv1 T ?_
           refine RL.st ?_
           first | refine NV.arith_u8 rfl rfl rfl rfl (by omega) (by omega) ?_ | refine NV.p T ?_
           refine RL.st ?_
           refine NV.call rfl rfl rfl fun22 rfl rfl (padd _ _ _ _ _ _ _ _ (1 - (st o).1) (by omega) (by omega) (by omega)) ?_
           rintro _ _ ⟨a1, c1, e⟩; obtain rfl := e.symm
           refine RL.nil _ _ _ _ ?_
           refine hK14 _ _ _ ?_
           refine SW.region _ _ _ _ ?_
           refine RL.st ?_
           refine NV.p T ?_
           refine RL.st ?_
           refine NV.p T ?_
           refine RL.st ?_
           refine NV.p T ?_
           refine RL.st ?_
           refine NV.call rfl rfl rfl fun22 rfl rfl (padd _ _ _ _ _ _ _ _ (es.getD k 0) (by omega) (by omega) (by omega)) ?_
           rintro _ _ ⟨a2, c2, e⟩; obtain rfl := e.symm
           refine RL.nil _ _ _ _ ?_
           refine hK12 _ _ _ ?_
           refine SW.region _ _ _ _ ?_
           refine RL.st ?_
           first | refine NV.arith rfl rfl rfl rfl (by omega) (by omega) ?_ | refine NV.p T ?_
           refine RL.st ?_
           refine NV.p T ?_
           refine RL.nil _ _ _ _ ?_
           first
             | exact ⟨n - (k + 1), (by omega), k + 1, a2, L + 1 + 1, c2, o ++ [1 - (st o).1] ++ [es.getD k 0], (by rfl), ⟨by omega, ⟨by simp; omega, hI.stuff (by omega) hzk (by assumption)⟩⟩, (.cons rfl (.nil (by repeat first | exact Mx.refl | exact Mx.mix | refine Mx.put rfl ?_ | refine Mx.upd rfl ?_ | refine Mx.updl rfl ?_ | refine Mx.fin rfl ?_ | refine Mx.inner rfl ?_ | refine Mx.none ?_))), rfl, (by rw [st2])⟩
             | exact ⟨n - (k + 1), (by omega), k + 1, a2, L + 1, c2, o ++ [es.getD k 0], (by rfl), ⟨by omega, ⟨by simp; omega, hI.see (by omega) hzk (by assumption)⟩⟩, (.cons rfl (.nil (by repeat first | exact Mx.refl | exact Mx.mix | refine Mx.put rfl ?_ | refine Mx.upd rfl ?_ | refine Mx.updl rfl ?_ | refine Mx.fin rfl ?_ | refine Mx.inner rfl ?_ | refine Mx.none ?_))), rfl, (by rw [st_app])⟩
           )
        ·try simp only [decide_eq_true_eq, decide_eq_false_iff_not, Bool.not_eq_true', Bool.not_eq_false', Int.not_lt, Int.not_le, Int.toNat_natCast] at hc2
         first
          | (exfalso; clear hK15 K15; clear hK14 K14; clear hK13 K13; clear hK12 K12; clear hK11 K11; clear hK10 K10; clear hK9 K9; clear hK8 K8; clear hK7 K7; clear hK6 K6; clear hK5 K5; clear hK3 K3; clear hK2 K2; clear hK1 K1; clear hK0 K0; first | omega | contradiction)
          | (
           refine SW.skip ?_
           refine hK14 _ _ _ ?_
           refine SW.region _ _ _ _ ?_
           refine RL.st ?_
           refine NV.p T ?_
           refine RL.st ?_
           refine NV.p T ?_
           refine RL.st ?_
           refine NV.p T ?_
           refine RL.st ?_
           refine NV.call rfl rfl rfl fun22 rfl rfl (padd _ _ _ _ _ _ _ _ (es.getD k 0) (by omega) (by omega) (by omega)) ?_
           rintro _ _ ⟨a2, c2, e⟩; obtain rfl := e.symm
           refine RL.nil _ _ _ _ ?_
           refine hK12 _ _ _ ?_
           refine SW.region _ _ _ _ ?_
           refine RL.st ?_
           first | refine NV.arith rfl rfl rfl rfl (by omega) (by omega) ?_ | refine NV.p T ?_
           refine RL.st ?_
           refine NV.p T ?_
           refine RL.nil _ _ _ _ ?_
           first
             | exact ⟨n - (k + 1), (by omega), k + 1, a2, L + 1 + 1, c2, o ++ [1 - (st o).1] ++ [es.getD k 0], (by rfl), ⟨by omega, ⟨by simp; omega, hI.stuff (by omega) hzk (by assumption)⟩⟩, (.cons rfl (.nil (by repeat first | exact Mx.refl | exact Mx.mix | refine Mx.put rfl ?_ | refine Mx.upd rfl ?_ | refine Mx.updl rfl ?_ | refine Mx.fin rfl ?_ | refine Mx.inner rfl ?_ | refine Mx.none ?_))), rfl, (by rw [st2])⟩
             | exact ⟨n - (k + 1), (by omega), k + 1, a2, L + 1, c2, o ++ [es.getD k 0], (by rfl), ⟨by omega, ⟨by simp; omega, hI.see (by omega) hzk (by assumption)⟩⟩, (.cons rfl (.nil (by repeat first | exact Mx.refl | exact Mx.mix | refine Mx.put rfl ?_ | refine Mx.upd rfl ?_ | refine Mx.updl rfl ?_ | refine Mx.fin rfl ?_ | refine Mx.inner rfl ?_ | refine Mx.none ?_))), rfl, (by rw [st_app])⟩
           )
        )
     ·try simp only [decide_eq_true_eq, decide_eq_false_iff_not, Bool.not_eq_true', Bool.not_eq_false', Int.not_lt, Int.not_le, Int.toNat_natCast] at hc1
      first
       | (exfalso; clear hK11 K11; clear hK10 K10; clear hK9 K9; clear hK8 K8; clear hK7 K7; clear hK6 K6; clear hK5 K5; clear hK3 K3; clear hK2 K2; clear hK1 K1; clear hK0 K0; first | omega | contradiction)
       | (
        refine SW.exit ?_
        refine hK8 _ _ _ ?_
        refine SW.seq_k ?_
        intro K16 hK16
        refine SW.seq_k ?_
        intro K17 hK17
        have hdone := hI.done (by omega)
        rw [hdone] at hL
        refine SW.region _ _ _ _ ?_
        refine RL.st ?_
        refine NV.lv1 T ?_
        refine RL.st ?_
        refine NV.p T ?_
        refine RL.st ?_
        refine NV.p T ?_
        refine RL.nil _ _ _ _ ?_
        refine hK17 _ _ _ ?_
        refine SW.cond rfl (fun hc3 => ?_) (fun hc3 => ?_)
        ·try simp only [decide_eq_true_eq, decide_eq_false_iff_not, Bool.not_eq_true', Bool.not_eq_false', Int.not_lt, Int.not_le, Int.toNat_natCast] at hc3
         first
          | (exfalso; clear hK17 K17; clear hK16 K16; clear hK11 K11; clear hK10 K10; clear hK9 K9; clear hK8 K8; clear hK7 K7; clear hK6 K6; clear hK5 K5; clear hK3 K3; clear hK2 K2; clear hK1 K1; clear hK0 K0; first | omega | contradiction)
          | (
           refine SW.seq_k ?_
           intro K18 hK18
           refine SW.region _ _ _ _ ?_
           refine RL.st ?_
           refine NV.p T ?_
           refine RL.st ?_
           refine NV.p T ?_
           refine RL.nil _ _ _ _ ?_
           refine hK18 _ _ _ ?_
           refine SW.ret ?_
           refine retQ.ret (H' := (.row sr L cr 5 1 (o.map (.int .u8)) :: H)) (RVs.tmp (by conv => lhs; whnf) (RVs.tmp (by conv => lhs; whnf) RVs.nil)) (fun w hw => Sat.sub (by repeat first | exact List.Sublist.refl _ | apply List.Sublist.cons_cons | apply List.Sublist.cons | exact List.sublist_append_right _ _ | refine List.Sublist.trans ?_ (List.sublist_append_right _ _)) hw) ?_
           clear hK18 K18 hK17 K17 hK16 K16 hK11 K11 hK10 K10 hK9 K9 hK8 K8 hK7 K7 hK6 K6 hK5 K5 hK3 K3 hK2 K2 hK1 K1 hK0 K0
           rw [hL, hdone]
           exact ⟨_, _, rfl, rfl⟩
           )
        ·try simp only [decide_eq_true_eq, decide_eq_false_iff_not, Bool.not_eq_true', Bool.not_eq_false', Int.not_lt, Int.not_le, Int.toNat_natCast] at hc3
         first
          | (exfalso; clear hK17 K17; clear hK16 K16; clear hK11 K11; clear hK10 K10; clear hK9 K9; clear hK8 K8; clear hK7 K7; clear hK6 K6; clear hK5 K5; clear hK3 K3; clear hK2 K2; clear hK1 K1; clear hK0 K0; first | omega | contradiction)
          | (
           refine SW.skip ?_
           refine hK16 _ _ _ ?_
           refine SW.seq_k ?_
           intro K19 hK19
           refine SW.region _ _ _ _ ?_
           refine RL.st ?_
           refine NV.lv1 T ?_
           refine RL.st ?_
           refine NV.p T ?_
           refine RL.st ?_
           refine NV.p T ?_
           refine RL.nil _ _ _ _ ?_
           refine hK19 _ _ _ ?_
           refine SW.ret ?_
           refine retQ.ret (H' := (.row sr L cr 5 1 (o.map (.int .u8)) :: H)) (RVs.tmp (by conv => lhs; whnf) (RVs.tmp (by conv => lhs; whnf) RVs.nil)) (fun w hw => Sat.sub (by repeat first | exact List.Sublist.refl _ | apply List.Sublist.cons_cons | apply List.Sublist.cons | exact List.sublist_append_right _ _ | refine List.Sublist.trans ?_ (List.sublist_append_right _ _)) hw) ?_
           clear hK19 K19 hK17 K17 hK16 K16 hK11 K11 hK10 K10 hK9 K9 hK8 K8 hK7 K7 hK6 K6 hK5 K5 hK3 K3 hK2 K2 hK1 K1 hK0 K0
           rw [hL, hdone]
           exact ⟨_, _, rfl, rfl⟩
           )
        )
    )
/-- Put of the program, of anything. -/
theorem sput {w0 : World} {H : List Chunk} (sa : Option Addr) (n c : Nat) (es : List Int) (hR : Rd w0 H sa n c 1 (es.map (.int .u8))) (hn : n = es.length) (hm : n ≤ 140737488351232) (hb : Byte es) : SC Try.prog w0 11 #[.slice sa n c] H (fun v H' => ∃ sr cr, v = .tuple #[.slice sr (putV es).1.length cr, .int .i64 (putV es).2] ∧ H' = .row sr (putV es).1.length cr 5 1 ((putV es).1.map (.int .u8)) :: H) := by
  have no : ∀ (v : Value) (H' : List Chunk), v = .tuple #[.slice none 0 0, .int .i64 2] ∧ H' = .row none 0 0 5 1 [] :: H → ∃ sr cr, v = .tuple #[.slice sr ([] : List Int).length cr, .int .i64 2] ∧ H' = .row sr ([] : List Int).length cr 5 1 (([] : List Int).map (.int .u8)) :: H := by rintro _ _ ⟨rfl, rfl⟩; exact ⟨_, _, rfl, rfl⟩
  by_cases hc : chk es = 0
  · have hcz := chk_zero.1 hc
    have hq : IntKind.i64.wrap ((n : Int).tdiv 4) = ((n / 4 : Nat) : Int) := by rw [Int.tdiv_eq_ediv_of_nonneg (by omega), wrap_i64 (by omega) (by omega)]; omega
    by_cases h : (stuffed es).length ≤ 65536
    · have e : putV es = (stuffed es, 0) := by unfold putV; rw [if_pos hc, if_pos h]
      rw [e]; exact sput_ok sa n c es hR hn hm hc (by omega) (bit_of hb hcz.2) _ hq (by omega) h
    · have e : putV es = ([], 2) := by unfold putV; rw [if_pos hc, if_neg h]
      rw [e]; exact SC.nilrow 5 1 ((sput_long sa n c es hR.cons hn hm hc (by omega) (bit_of hb hcz.2) _ hq (by omega) (by omega)).mono no)
  · have e : putV es = ([], 2) := if_neg hc
    rw [e]; exact SC.nilrow 5 1 ((sput_bad sa n c es hR.cons hn hm hc).mono no)
end Go.Proofs.Ytilffbgepliamaa.M
