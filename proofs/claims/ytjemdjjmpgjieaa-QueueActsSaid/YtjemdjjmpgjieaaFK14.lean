import Derived.Test.YtjemdjjmpgjieaaProg
import Derived.Test.YtjemdjjmpgjieaaFJ14
import Derived.Test.YtjemdjjmpgjieaaS28
import Derived.Test.YtjemdjjmpgjieaaS37
import Derived.Test.YtjemdjjmpgjieaaP14f
set_option linter.unusedVariables false
set_option linter.unusedSimpArgs false
namespace Go.Proofs.Ytjemdjjmpgjieaa.M
open Go Go.Sep Go.Proofs
set_option maxRecDepth 10000
set_option maxHeartbeats 2000000
theorem values {w0 : World} {H : List Chunk} (a : Option Addr) (n c : Nat) : SC Try.prog w0 44 #[.slice a n c] H (fun v H' => ∃ b, v = .func (.func 59) #[] #[.pointer (some ⟨b, 0, none⟩)] ∧ H' = .var b 71 [.slice a n c] :: H) := by
 refine SC.enter Try.func44 rfl (Nat.le_of_ble_eq_true rfl) ?_
 refine SW.seq_k fun K0 hK0 => ?_
 refine SW.region _ _ _ _ ?_
 refine RL.s ?_
 refine NV.box rfl (by exact (rfl : _ = [_])) ?_
 intro b1_0
 refine RL.p T ?_
 refine RL.nil _ _ _ _ ?_
 refine hK0 _ _ _ ?_
 refine SW.seq_k fun K1 hK1 => ?_
 refine SW.region _ _ _ _ ?_
 refine RL.p T ?_
 refine RL.p T ?_
 refine RL.nil _ _ _ _ ?_
 refine hK1 _ _ _ ?_
 refine SW.ret ?_
 refine retQ.rr _ ?_ (hH := fun w hw => hw)
 clear hK1 K1 hK0 K0
 exact ⟨_, rfl, rfl⟩
theorem valIter {w0 : World} {H : List Chunk} (L b : Nat) (a : Option Addr) (n c : Nat) (M : List En) (hn : n = M.length) (hm : n ≤ 100) {J : Nat → List Chunk → Prop} {X : List Chunk → Prop} (hV : ∀ k HJ, J k HJ → ∃ kk, At HJ (.var b 71 [.slice a n c]) kk) (hJR : ∀ k HJ, J k HJ → (∃ w, Sat w0 w HJ) → Rd w0 HJ a n c 13 (M.flatMap EnC)) (hJ0 : J 0 H) (hround : ∀ k HJ, k < n → J k HJ → Yld Try.prog w0 none L [EnA (gE M k)] HJ (fun v H' => ∃ bb, v = .bool bb ∧ (bb = true → J (k + 1) H') ∧ (bb = false → X H'))) : SC Try.prog w0 59 #[.func (.yield L) #[] #[], .pointer (some ⟨b, 0, none⟩)] H (fun v H' => J n H' ∨ X H') := by
 refine SC.enter Try.func59 rfl (Nat.le_of_ble_eq_true rfl) ?_
 refine SW.seq_k fun K0 hK0 => ?_
 obtain ⟨kv0, hat0⟩ := hV 0 H hJ0
 refine SW.region _ _ _ _ ?_
 first | refine RL.lv1 T ?_ | refine RL.le T ?_ (hR := fun hs => (hRk hs)) (hv := (gE_get (by omega)))
 refine RL.p T ?_
 refine RL.p T ?_
 refine RL.nil _ _ _ _ ?_
 refine hK0 _ _ _ ?_
 refine SW.block ?_
 refine SW.loopM (fun frB mm fr ds HH => ∃ (k : Nat) (HJ : List Chunk), mm = n - k ∧ (k ≤ n ∧ J k HJ) ∧ FrIs [4, 7, 8, 9, 10, 11, 12, 13, 14, 15] frB fr [(7, .int .i64 k)] ∧ ds = [] ∧ HH = HJ) (n := n - 0) ?_ ?_
 ·exact ⟨0, H, rfl, ⟨Nat.zero_le _, hJ0⟩, (.consI rfl (by first | omega | rfl) (.nil (by repeat first | with_reducible exact Mx.refl | with_reducible exact Mx.mix | refine Mx.put rfl ?_ | refine Mx.upd rfl ?_ | refine Mx.updl rfl ?_ | refine Mx.fin rfl ?_ | refine Mx.inner rfl ?_ | refine Mx.none ?_ | exact Mx.refl | exact Mx.mix))), rfl, rfl⟩
 ·rintro mm fr ds HH ⟨k, HJ, rfl, ⟨hk, hJ⟩, hFr, rfl, eHH⟩
  obtain rfl := eHH.symm
  obtain ⟨frU, rfl⟩ := hFr.eq
  clear hFr
  obtain ⟨kv, hat⟩ := hV k HJ hJ
  have hRk := hJR k HJ hJ
  refine SW.seq_k fun K1 hK1 => ?_
  refine SW.region _ _ _ _ ?_
  refine RL.p T ?_
  refine RL.nil _ _ _ _ ?_
  refine hK1 _ _ _ ?_
  refine SW.seq_k fun K2 hK2 => ?_
  refine SW.cs (fun hc0 => ?_) (fun hc0 => ?_)
  ·skip
   first
    | (exfalso; first | omega | contradiction | (clear hK2 K2; clear hK1 K1; clear hK0 K0; simp at *; done))
    | (
     refine SW.skip ?_
     refine hK2 _ _ _ ?_
     refine SW.seq_k fun K3 hK3 => ?_
     refine SW.block ?_
     refine SW.seq_k fun K4 hK4 => ?_
     refine SW.region _ _ _ _ ?_
     refine RL.ix T ?_ (hR := fun hs => (hRk hs))
     refine RL.leN T ?_ (hR := fun hs => (hRk hs)) (hvs := (by exact (rfl : _ = [_, _, _, _, _, _, _, _, _, _, _, _, _])))
     refine RL.s ?_
     refine NV.alloc T rfl rfl rfl (by exact (rfl : _ = [_, _, _, _, _, _, _, _, _, _, _, _, _])) ?_
     intro b4_0
     refine RL.s ?_
     refine NV.sN T rfl rfl rfl (by exact (rfl : _ = [_, _, _, _, _, _, _, _, _, _, _, _, _])) (by exact (rfl : _ = [_, _, _, _, _, _, _, _, _, _, _, _, _])) ?_
     refine RL.nil _ _ _ _ ?_
     refine hK4 _ _ _ ?_
     refine SW.seq_k fun K5 hK5 => ?_
     refine SW.region _ _ _ _ ?_
     refine RL.p T ?_
     refine RL.q (QV.vN T rfl rfl rfl rfl rfl (by exact (rfl : _ = [_, _, _, _, _, _, _, _, _, _, _, _, _]))) ?_
     refine RL.s ?_
     refine NV.yield ((Yld.wk (hround k HJ (by omega) hJ)).mono ?_)
     rintro _ HY ⟨bb, rfl, hY1, hY2⟩
     refine RL.p T ?_
     refine RL.nil _ _ _ _ ?_
     refine hK5 _ _ _ ?_
     refine SW.cs (fun hc1 => ?_) (fun hc1 => ?_)
     ·skip
      first
       | (exfalso; first | omega | contradiction | (clear hK5 K5; clear hK4 K4; clear hK3 K3; clear hK2 K2; clear hK1 K1; clear hK0 K0; simp at *; done))
       | (
        refine SW.ret ?_
        refine retQ.rr _ ?_ (hH := fun w hw => hw)
        clear hK5 K5 hK4 K4 hK3 K3 hK2 K2 hK1 K1 hK0 K0
        first
          | exact .inr (hY2 (by first | assumption | simp_all))
          | (obtain rfl : k = n := by omega
             exact .inl hJ)
        )
     ·skip
      first
       | (exfalso; first | omega | contradiction | (clear hK5 K5; clear hK4 K4; clear hK3 K3; clear hK2 K2; clear hK1 K1; clear hK0 K0; simp at *; done))
       | (
        refine SW.skip ?_
        refine hK3 _ _ _ ?_
        refine SW.region _ _ _ _ ?_
        first | refine RL.ar ?_ | refine RL.p T ?_
        refine RL.p T ?_
        refine RL.nil _ _ _ _ ?_
        exact ⟨n - (k + 1), (by omega), k + 1, HY, (by rfl), ⟨by omega, hY1 (by first | assumption | simp_all)⟩, (.consI rfl (by first | omega | rfl) (.nil (by repeat first | with_reducible exact Mx.refl | with_reducible exact Mx.mix | refine Mx.put rfl ?_ | refine Mx.upd rfl ?_ | refine Mx.updl rfl ?_ | refine Mx.fin rfl ?_ | refine Mx.inner rfl ?_ | refine Mx.none ?_ | exact Mx.refl | exact Mx.mix))), rfl, rfl⟩
        )
     )
  ·skip
   first
    | (exfalso; first | omega | contradiction | (clear hK2 K2; clear hK1 K1; clear hK0 K0; simp at *; done))
    | (
     refine SW.exit ?_
     try simp only [thenQ, blockQ, Nat.beq_refl, cond_true]
     refine retQ.nn _ ?_ (hH := fun w hw => hw)
     clear hK2 K2 hK1 K1 hK0 K0
     first
       | exact .inr (hY2 (by first | assumption | simp_all))
       | (obtain rfl : k = n := by omega
          exact .inl hJ)
     )
theorem appSeq {w0 : World} {H : List Chunk} (b : Nat) (a : Option Addr) (n c : Nat) (M : List En) (hn : n = M.length) (hm : n ≤ 100) (hR : Rd w0 H a n c 13 (M.flatMap EnC)) : SC Try.prog w0 69 #[.slice none 0 0, .func (.func 59) #[] #[.pointer (some ⟨b, 0, none⟩)]] (.var b 71 [.slice a n c] :: H) (fun v H' => ∃ ra rc, v = .slice ra n rc ∧ H' = .row ra n rc 80 13 (List.flatMap EnC (M)) :: H) := by
 refine SC.enterM Try.func69 rfl (Nat.le_of_ble_eq_true rfl) ?_
 refine SW.seq_k fun K0 hK0 => ?_
 refine SW.region _ _ _ _ ?_
 refine RL.s ?_
 refine NV.box rfl (by exact (rfl : _ = [_])) ?_
 intro b2_0
 refine RL.p T ?_
 refine RL.nil _ _ _ _ ?_
 refine hK0 _ _ _ ?_
 refine SW.seq_k fun K1 hK1 => ?_
 refine SW.seq_k fun K2 hK2 => ?_
 refine SW.region _ _ _ _ ?_
 refine RL.p T ?_
 refine RL.nilrow 80 13 ?_
 refine RL.wk (.row none 0 0 80 13 (List.flatMap EnC ([])) :: .var b2_0 70 [.slice none 0 0] :: .var b 71 [.slice a n c] :: H) ?_
 refine RL.nil _ _ _ _ ?_
 refine hK2 _ _ _ ?_
 refine SW.block ?_
 refine SW.rangeF (hfun := fun59) (fun L D LO hY => ?_)
 refine (valIter L b a n c M hn hm (hV := fun k HJ ⟨_, _, e⟩ => by rw [e.2]; exact ⟨_, .tail (.tail (.tail (.tail (.head _ _))))⟩) (hJR := fun k HJ ⟨_, _, e⟩ hs => by rw [e.2]; exact hR.cons.cons.cons.cons.cons) (J := fun k HJ => ∃ (ra : Option Addr) (rc : Nat), (True) ∧ HJ = LO .ready none :: .obj D (.deferred (some [])) :: .row ra k rc 80 13 (List.flatMap EnC (M.take k)) :: .var b2_0 70 [.slice ra k rc] :: .var b 71 [.slice a n c] :: H) (X := fun HJ => False) ?_ (fun k HJ hk hJ => ?_)).mono ?_
 ·exact ⟨none, 0, trivial, rfl⟩
 ·obtain ⟨ra, rc, _, rfl⟩ := hJ
  refine hY (by repeat first | exact At.head _ _ | apply At.tail | apply At.app) rfl ?_
  refine SW.region _ _ _ _ ?_
  refine RL.s ?_
  refine NV.alloc T rfl rfl rfl (by exact (rfl : _ = [_, _, _, _, _, _, _, _, _, _, _, _, _])) ?_
  intro b5_1
  refine RL.s ?_
  refine NV.sN T rfl rfl rfl (by exact (rfl : _ = [_, _, _, _, _, _, _, _, _, _, _, _, _])) (by exact (rfl : _ = [_, _, _, _, _, _, _, _, _, _, _, _, _])) ?_
  refine RL.nil _ _ _ _ ?_
  refine ⟨_, (by repeat first | exact At.head _ _ | apply At.tail | apply At.app), ?_⟩
  refine SW.block ?_
  refine SW.region _ _ _ _ ?_
  refine RL.lv1 T ?_
  refine RL.q (QV.vN T rfl rfl rfl rfl rfl (by exact (rfl : _ = [_, _, _, _, _, _, _, _, _, _, _, _, _]))) ?_
  refine RL.bs T rfl rfl rfl (by exact (rfl : _ = some [_, _, _, _, _, _, _, _, _, _, _, _, _])) (fun b10_2 => ?_)
  refine RL.apS T ([gE M k]) (fun a0_ c0_ => ?_)
  refine RL.sv1 T ?_
  refine RL.wk (LO .busy none :: .obj D (.deferred (some [])) :: .row a0_ (k + 1) c0_ 80 13 (List.flatMap EnC (M.take k ++ [gE M k])) :: .var b2_0 70 [.slice a0_ (k + 1) c0_] :: .var b 71 [.slice a n c] :: H) ?_
  refine RL.nil _ _ _ _ ?_
  exact ⟨_, (by repeat first | exact At.head _ _ | apply At.tail), true, rfl, fun _ => ⟨a0_, c0_, trivial, (by rw [take_en hk hn])⟩, fun h => by cases h⟩
 ·rintro v HJ (⟨ra, rc, _, rfl⟩ | hF)
  ·refine ⟨_, _, none, At.head _ _, (fun h => by cases h), ?_⟩
   refine hK1 _ _ _ ?_
   refine SW.seq_k fun K3 hK3 => ?_
   refine SW.region _ _ _ _ ?_
   refine RL.lv1 T ?_
   refine RL.p T ?_
   refine RL.nil _ _ _ _ ?_
   refine hK3 _ _ _ ?_
   refine SW.ret ?_
   rw [List.take_of_length_le (Nat.le_of_eq hn.symm)]
   refine Lv.mark (by repeat first | exact At.head _ _ | assumption | exact At.put (by assumption) _ | apply At.tail | apply At.app) (Lv.sat fun hs => Lv.nil (H' := (.row ra n rc 80 13 (List.flatMap EnC (M)) :: H)) (RVs.tmp (by conv => lhs; whnf) RVs.nil) (fun w hw => SubL.sat SubL.by hw) ?_)
   clear hK3 K3 hK2 K2 hK1 K1 hK0 K0
   exact ⟨_, _, rfl, rfl⟩
  ·exact hF.elim
theorem collect {w0 : World} {H : List Chunk} (b : Nat) (a : Option Addr) (n c : Nat) (M : List En) (hn : n = M.length) (hm : n ≤ 100) (hR : Rd w0 H a n c 13 (M.flatMap EnC)) : SC Try.prog w0 57 #[.func (.func 59) #[] #[.pointer (some ⟨b, 0, none⟩)]] (.var b 71 [.slice a n c] :: H) (fun v H' => ∃ ra rc, v = .slice ra n rc ∧ H' = .row ra n rc 80 13 (List.flatMap EnC (M)) :: H) := by
 refine SC.enter Try.func57 rfl (Nat.le_of_ble_eq_true rfl) ?_
 refine SW.seq_k fun K0 hK0 => ?_
 refine SW.region _ _ _ _ ?_
 refine RL.p T ?_
 refine RL.nil _ _ _ _ ?_
 refine hK0 _ _ _ ?_
 refine SW.seq_k fun K1 hK1 => ?_
 refine SW.region _ _ _ _ ?_
 refine RL.p T ?_
 refine RL.c fun69 (fun hs => appSeq b a n c M hn hm hR) ?_
 rintro _ _ ⟨ra, rc, rfl, e⟩; obtain rfl := e.symm
 refine RL.p T ?_
 refine RL.nil _ _ _ _ ?_
 refine hK1 _ _ _ ?_
 refine SW.ret ?_
 refine retQ.rr ((.row ra n rc 80 13 (List.flatMap EnC (M)) :: H)) ?_
 clear hK1 K1 hK0 K0
 exact ⟨_, _, rfl, rfl⟩
theorem sortedF {w0 : World} {H : List Chunk} (b : Nat) (a : Option Addr) (n c : Nat) (M : List En) (hn : n = M.length) (hm : n ≤ 100) (hR : Rd w0 H a n c 13 (M.flatMap EnC)) : SC Try.prog w0 43 #[.func (.func 59) #[] #[.pointer (some ⟨b, 0, none⟩)], .func (.func 45) #[] #[]] (.var b 71 [.slice a n c] :: H) (fun v H' => ∃ ra rc M', v = .slice ra n rc ∧ M'.Perm M ∧ SortedE M' ∧ H' = .row ra n rc 80 13 (List.flatMap EnC (M')) :: H) := by
 refine SC.enter Try.func43 rfl (Nat.le_of_ble_eq_true rfl) ?_
 refine SW.seq_k fun K0 hK0 => ?_
 refine SW.region _ _ _ _ ?_
 refine RL.p T ?_
 refine RL.nil _ _ _ _ ?_
 refine hK0 _ _ _ ?_
 refine SW.seq_k fun K1 hK1 => ?_
 refine SW.region _ _ _ _ ?_
 refine RL.p T ?_
 refine RL.c fun57 (fun hs => collect b a n c M hn hm hR) ?_
 rintro _ _ ⟨ra, rc, rfl, e⟩; obtain rfl := e.symm
 refine RL.p T ?_
 refine RL.nil _ _ _ _ ?_
 refine hK1 _ _ _ ?_
 refine SW.seq_k fun K2 hK2 => ?_
 refine SW.region _ _ _ _ ?_
 refine RL.p T ?_
 refine RL.p T ?_
 refine RL.c fun58 (fun hs => sortC ra n rc M hn hm) ?_
 rintro _ _ ⟨M', rfl, hpm, hst, e⟩; obtain rfl := e.symm
 refine RL.nil _ _ _ _ ?_
 refine hK2 _ _ _ ?_
 refine SW.seq_k fun K3 hK3 => ?_
 refine SW.region _ _ _ _ ?_
 refine RL.p T ?_
 refine RL.p T ?_
 refine RL.nil _ _ _ _ ?_
 refine hK3 _ _ _ ?_
 refine SW.ret ?_
 refine retQ.rr ((.row ra n rc 80 13 (List.flatMap EnC (M')) :: H)) ?_
 clear hK3 K3 hK2 K2 hK1 K1 hK0 K0
 exact ⟨_, _, _, rfl, hpm, hst, rfl⟩
theorem qall {w0 : World} {H : List Chunk} (bq : Nat) (room last : Int) (a : Option Addr) (n c : Nat) (M : List En) (hn : n = M.length) (hm : n ≤ 100) (hok : ∀ q ∈ M, FsOk w0 H q.fs) : SC Try.prog w0 26 #[.pointer (some ⟨bq, 0, none⟩)] (.var bq 73 [.int .i64 room, .int .i64 last, .slice a n c] :: .row a n c 80 13 (List.flatMap EnC (M)) :: H) (fun v H' => ∃ oa oc out M' G, v = .slice oa n oc ∧ out.length = n ∧ M'.Perm M ∧ SortedE M' ∧ out.map itP = M'.map enP ∧ (∀ i ∈ out, FsOk w0 G i.fs) ∧ H' = (.var bq 73 [.int .i64 room, .int .i64 last, .slice a n c] :: .row a n c 80 13 (List.flatMap EnC (M)) :: .row oa n oc 37 12 (List.flatMap ItC (out)) :: (G ++ H))) := by
 refine SC.enter Try.func26 rfl (Nat.le_of_ble_eq_true rfl) ?_
 refine SW.seq_k fun K0 hK0 => ?_
 refine SW.region _ _ _ _ ?_
 refine RL.p T ?_
 refine RL.nil _ _ _ _ ?_
 refine hK0 _ _ _ ?_
 refine SW.seq_k fun K1 hK1 => ?_
 refine SW.seq_k fun K2 hK2 => ?_
 refine SW.region _ _ _ _ ?_
 refine RL.p T ?_
 refine RL.p T ?_
 refine RL.nil _ _ _ _ ?_
 refine hK2 _ _ _ ?_
 refine SW.cs (fun hc0 => ?_) (fun hc0 => ?_)
 ·skip
  first
   | (exfalso; first | omega | contradiction | (clear hK2 K2; clear hK1 K1; clear hK0 K0; simp at *; done))
   | (
    refine SW.seq_k fun K3 hK3 => ?_
    refine SW.region _ _ _ _ ?_
    refine RL.p T ?_
    refine RL.nil _ _ _ _ ?_
    refine hK3 _ _ _ ?_
    refine SW.ret ?_
    obtain rfl : n = k := by omega
    rw [List.take_of_length_le (by omega)] at hop
    refine retQ.wk ((.var bq 73 [.int .i64 room, .int .i64 last, .slice a n c] :: .row a n c 80 13 (List.flatMap EnC (M)) :: .row oa n oc 37 12 (List.flatMap ItC (out)) :: (G ++ H))) ?_
    refine retQ.rr _ ?_ (hH := fun w hw => hw)
    clear hK3 K3 hK2 K2 hK1 K1 hK0 K0
    exact ⟨_, _, _, _, _, rfl, hol, hpm, hst, hop, hog, rfl⟩
    )
 ·skip
  first
   | (exfalso; first | omega | contradiction | (clear hK2 K2; clear hK1 K1; clear hK0 K0; simp at *; done))
   | (
    refine SW.skip ?_
    refine hK1 _ _ _ ?_
    refine SW.seq_k fun K4 hK4 => ?_
    refine SW.region _ _ _ _ ?_
    refine RL.nilrow 37 12 ?_
    refine RL.p T ?_
    refine RL.nil _ _ _ _ ?_
    refine hK4 _ _ _ ?_
    refine SW.seq_k fun K5 hK5 => ?_
    refine SW.seq_k fun K6 hK6 => ?_
    refine SW.region _ _ _ _ ?_
    refine RL.p T ?_
    refine RL.p T ?_
    refine RL.p T ?_
    first | refine RL.lv1 T ?_ | refine RL.le T ?_ (hR := fun hs => (Rd.rowh hs (by repeat first | exact At.head _ _ | apply At.tail | apply At.app))) (hv := (gE_get (by omega)))
    refine RL.c fun44 (fun hs => values a n c) ?_
    rintro _ _ ⟨b, rfl, e⟩; obtain rfl := e.symm
    refine RL.c fun43 (fun hs => SC.wk (sortedF b a n c M hn hm (Rd.rowh (satT (H0 := .var bq 73 [.int .i64 room, .int .i64 last, .slice a n c] :: .row a n c 80 13 (List.flatMap EnC (M)) :: H) hs) (At.tail (At.head _ _))) (H := .var bq 73 [.int .i64 room, .int .i64 last, .slice a n c] :: .row a n c 80 13 (List.flatMap EnC (M)) :: H))) ?_
    rintro _ _ ⟨ra, rc, M', rfl, hpm, hst, e⟩; obtain rfl := e.symm
    have hml : M'.length = n := hpm.length_eq.trans hn.symm
    have hok2 : ∀ q ∈ M', FsOk w0 H q.fs := fun q hq => hok q (hpm.mem_iff.1 hq)
    refine RL.p T ?_
    refine RL.p T ?_
    refine RL.nilrow 37 12 ?_
    refine RL.wk (.row none 0 0 37 12 (List.flatMap ItC ([])) :: ([] ++ (.row ra n rc 80 13 (List.flatMap EnC (M')) :: .var bq 73 [.int .i64 room, .int .i64 last, .slice a n c] :: .row a n c 80 13 (List.flatMap EnC (M)) :: H))) ?_
    refine RL.nil _ _ _ _ ?_
    refine hK6 _ _ _ ?_
    refine SW.block ?_
    refine SW.loopM (fun frB mm fr ds HH => ∃ (k : Nat) (oa : Option Addr) (oc : Nat) (out : List It) (G : List Chunk), mm = n - k ∧ (k ≤ n ∧ (out.length = k ∧ out.map itP = (M'.take k).map enP ∧ (∀ i ∈ out, FsOk w0 G i.fs))) ∧ FrIs [3, 5, 15, 16, 17, 18, 19, 20, 21, 22, 23, 24] frB fr [(15, .int .i64 k), (3, .slice oa k oc)] ∧ ds = [] ∧ HH = (.row oa k oc 37 12 (List.flatMap ItC (out)) :: (G ++ (.row ra n rc 80 13 (List.flatMap EnC (M')) :: .var bq 73 [.int .i64 room, .int .i64 last, .slice a n c] :: .row a n c 80 13 (List.flatMap EnC (M)) :: H)))) (n := n - 0) ?_ ?_
    ·exact ⟨0, none, 0, [], [], rfl, ⟨Nat.zero_le _, ⟨rfl, rfl, fun i h => by cases h⟩⟩, (.cons rfl (.cons rfl (.nil (by repeat first | with_reducible exact Mx.refl | with_reducible exact Mx.mix | refine Mx.put rfl ?_ | refine Mx.upd rfl ?_ | refine Mx.updl rfl ?_ | refine Mx.fin rfl ?_ | refine Mx.inner rfl ?_ | refine Mx.none ?_ | exact Mx.refl | exact Mx.mix)))), rfl, rfl⟩
    ·rintro mm fr ds HH ⟨k, oa, oc, out, G, rfl, ⟨hk, ⟨hol, hop, hog⟩⟩, hFr, rfl, eHH⟩
     obtain rfl := eHH.symm
     obtain ⟨frU, rfl⟩ := hFr.eq
     clear hFr
     refine SW.seq_k fun K7 hK7 => ?_
     skip
     refine SW.region _ _ _ _ ?_
     refine RL.p T ?_
     refine RL.nil _ _ _ _ ?_
     refine hK7 _ _ _ ?_
     refine SW.seq_k fun K8 hK8 => ?_
     refine SW.cs (fun hc1 => ?_) (fun hc1 => ?_)
     ·skip
      first
       | (exfalso; first | omega | contradiction | (clear hK8 K8; clear hK7 K7; clear hK6 K6; clear hK5 K5; clear hK4 K4; clear hK2 K2; clear hK1 K1; clear hK0 K0; simp at *; done))
       | (
        refine SW.skip ?_
        refine hK8 _ _ _ ?_
        refine SW.seq_k fun K9 hK9 => ?_
        refine SW.block ?_
        refine SW.seq_k fun K10 hK10 => ?_
        refine SW.region _ _ _ _ ?_
        refine RL.ix T ?_ (hR := fun hs => (Rd.rowh hs (by repeat first | exact At.head _ _ | apply At.tail | apply At.app)))
        refine RL.leN T ?_ (hR := fun hs => (Rd.rowh hs (by repeat first | exact At.head _ _ | apply At.tail | apply At.app))) (hvs := (by exact (rfl : _ = [_, _, _, _, _, _, _, _, _, _, _, _, _])))
        refine RL.s ?_
        refine NV.alloc T rfl rfl rfl (by exact (rfl : _ = [_, _, _, _, _, _, _, _, _, _, _, _, _])) ?_
        intro b5_0
        refine RL.s ?_
        refine NV.sN T rfl rfl rfl (by exact (rfl : _ = [_, _, _, _, _, _, _, _, _, _, _, _, _])) (by exact (rfl : _ = [_, _, _, _, _, _, _, _, _, _, _, _, _])) ?_
        refine RL.nil _ _ _ _ ?_
        refine hK10 _ _ _ ?_
        refine SW.region _ _ _ _ ?_
        refine RL.p T ?_
        refine RL.q (QV.vN T rfl rfl rfl rfl rfl (by exact (rfl : _ = [_, _, _, _, _, _, _, _, _, _, _, _, _]))) ?_
        refine RL.c fun40 (fun hs => own (gE M' k) ((hok2 _ (gE_in (by omega))).sub SubL.by)) ?_
        rintro _ _ ⟨a1, c1, rfl, e⟩; obtain rfl := e.symm
        refine RL.sat (fun hs => ?_)
        have hx0 := hok2 _ (gE_in (L := M') (i := k) (by omega))
        have hog2 : ∀ i ∈ out ++ [(⟨(gE M' k).no, (⟨(gE M' k).fs.f, a1, (gE M' k).fs.f.data.length, c1⟩ : Fs)⟩ : It)], FsOk w0 (.row a1 (gE M' k).fs.f.data.length c1 5 1 ((gE M' k).fs.f.data.map (.int .u8)) :: G) i.fs := fun i hi => (List.mem_append.1 hi).elim (fun m => (hog i m).cons) (fun m => by
          rw [List.mem_singleton.1 m]
          exact FsOk.sub (T := [.row a1 (gE M' k).fs.f.data.length c1 5 1 ((gE M' k).fs.f.data.map (.int .u8))]) ⟨rfl, Nat.le_trans (Nat.le_of_eq hx0.len.symm) hx0.max, hx0.ok, Rd.rowh (satT (H0 := [.row a1 (gE M' k).fs.f.data.length c1 5 1 ((gE M' k).fs.f.data.map (.int .u8))]) hs) (At.head _ _)⟩ SubL.by)
        clear hs
        refine RL.bs T rfl rfl rfl (by exact (rfl : _ = some [_, _, _, _, _, _, _, _, _, _, _, _])) (fun b22_1 => ?_)
        refine RL.apS T ([(⟨(gE M' k).no, (⟨(gE M' k).fs.f, a1, (gE M' k).fs.f.data.length, c1⟩ : Fs)⟩ : It)]) (fun a0_ c0_ => ?_)
        refine RL.p T ?_
        refine RL.nil _ _ _ _ ?_
        refine hK9 _ _ _ ?_
        refine SW.region _ _ _ _ ?_
        first | refine RL.ar ?_ | refine RL.p T ?_
        refine RL.p T ?_
        refine RL.wk (.row a0_ (k + 1) c0_ 37 12 (List.flatMap ItC (out ++ [(⟨(gE M' k).no, (⟨(gE M' k).fs.f, a1, (gE M' k).fs.f.data.length, c1⟩ : Fs)⟩ : It)])) :: ((.row a1 (gE M' k).fs.f.data.length c1 5 1 ((gE M' k).fs.f.data.map (.int .u8)) :: G) ++ (.row ra n rc 80 13 (List.flatMap EnC (M')) :: .var bq 73 [.int .i64 room, .int .i64 last, .slice a n c] :: .row a n c 80 13 (List.flatMap EnC (M)) :: H))) ?_
        refine RL.nil _ _ _ _ ?_
        exact ⟨n - (k + 1), (by omega), k + 1, a0_, c0_, out ++ [⟨(gE M' k).no, (⟨(gE M' k).fs.f, a1, (gE M' k).fs.f.data.length, c1⟩ : Fs)⟩], .row a1 (gE M' k).fs.f.data.length c1 5 1 ((gE M' k).fs.f.data.map (.int .u8)) :: G, (by rfl), ⟨by omega, ⟨by simp [hol], by rw [take_en (n := n) (by omega) hml.symm, List.map_append, List.map_append, hop]; rfl, hog2⟩⟩, (.cons rfl (.cons rfl (.nil (by repeat first | with_reducible exact Mx.refl | with_reducible exact Mx.mix | refine Mx.put rfl ?_ | refine Mx.upd rfl ?_ | refine Mx.updl rfl ?_ | refine Mx.fin rfl ?_ | refine Mx.inner rfl ?_ | refine Mx.none ?_ | exact Mx.refl | exact Mx.mix)))), rfl, rfl⟩
        )
     ·skip
      first
       | (exfalso; first | omega | contradiction | (clear hK8 K8; clear hK7 K7; clear hK6 K6; clear hK5 K5; clear hK4 K4; clear hK2 K2; clear hK1 K1; clear hK0 K0; simp at *; done))
       | (
        refine SW.exit ?_
        refine hK5 _ _ _ ?_
        refine SW.seq_k fun K11 hK11 => ?_
        refine SW.region _ _ _ _ ?_
        refine RL.p T ?_
        refine RL.p T ?_
        refine RL.nil _ _ _ _ ?_
        refine hK11 _ _ _ ?_
        refine SW.ret ?_
        obtain rfl : n = k := by omega
        rw [List.take_of_length_le (by omega)] at hop
        refine retQ.wk ((.var bq 73 [.int .i64 room, .int .i64 last, .slice a n c] :: .row a n c 80 13 (List.flatMap EnC (M)) :: .row oa n oc 37 12 (List.flatMap ItC (out)) :: (G ++ H))) ?_
        refine retQ.rr _ ?_ (hH := fun w hw => hw)
        clear hK11 K11 hK8 K8 hK7 K7 hK6 K6 hK5 K5 hK4 K4 hK2 K2 hK1 K1 hK0 K0
        exact ⟨_, _, _, _, _, rfl, hol, hpm, hst, hop, hog, rfl⟩
        )
    )
end Go.Proofs.Ytjemdjjmpgjieaa.M
