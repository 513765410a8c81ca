import Derived.Test.YtjemdjjmpgjieaaProg
import Derived.Test.YtjemdjjmpgjieaaFD14
import Derived.Test.YtjemdjjmpgjieaaS36
import Derived.Test.YtjemdjjmpgjieaaP14f
set_option linter.unusedVariables false
set_option linter.unusedSimpArgs false
namespace Go.Proofs.Ytjemdjjmpgjieaa.M
open Go Go.Sep Go.Proofs
set_option maxRecDepth 10000
set_option maxHeartbeats 2000000
theorem ld71 {w0 w : World} {H : List Chunk} {bq : Nat} {x y v : Value} {k : Chunk → List Chunk} (hw : Sat w0 w H) (hat : At H (.var bq 73 [x, y, v]) k) : (loadVar 71 ⟨bq, 2, none⟩).run Try.prog w = .ok v w := by
  have h : RVs w0 Try.prog (upd (fun _ => undef) 0 (.pointer (some ⟨bq, 2, none⟩))) H [.cell 0 71] [v] := RVs.var1 T rfl rfl rfl hat rfl .nil
  cases h with
  | cell h1 hl hr =>
    cases h1
    exact hl w hw
theorem up_half {p : Nat} (h : p ≤ 1000) : IntKind.i64.wrap (((p : Int) - 1).tdiv 2) = (((p - 1) / 2 : Nat) : Int) := by
  rcases Nat.eq_zero_or_pos p with h0 | h0
  · subst h0; decide
  · have e : (p : Int) - 1 = ((p - 1 : Nat) : Int) := by omega
    rw [e, Int.tdiv_eq_ediv_of_nonneg (by omega)]
    exact wrap_in (by simp only [loK]; omega) (by simp only [hiK]; omega)
theorem up {w0 : World} {H : List Chunk} (bq : Nat) (room last : Int) (a : Option Addr) (n c : Nat) (L : List En) (hn : n = L.length) (hm : n ≤ 100) (j : Nat) (hj : j < n) : SC Try.prog w0 50 #[.iface 78 (.pointer (some ⟨bq, 2, none⟩)), .int .i64 (j : Nat)] (.var bq 73 [.int .i64 room, .int .i64 last, .slice a n c] :: .row a n c 80 13 (List.flatMap EnC (L)) :: H) (fun v H' => H' = (.var bq 73 [.int .i64 room, .int .i64 last, .slice a n c] :: .row a n c 80 13 (List.flatMap EnC (upL L j)) :: H)) := by
 refine SC.enter Try.func50 rfl (Nat.le_of_ble_eq_true rfl) ?_
 refine SW.block ?_
 refine SW.loopM (fun frB mm fr ds HH => ∃ (p : Nat) (M : List En), mm = p + 1 ∧ (M.length = n ∧ p < n ∧ upL M p = upL L j) ∧ FrIs [1, 4, 5, 6, 7, 8, 9, 10, 11, 12, 13, 14, 15, 16, 17, 18, 19, 20, 21, 22] frB fr [(1, .int .i64 p)] ∧ ds = [] ∧ HH = (.var bq 73 [.int .i64 room, .int .i64 last, .slice a n c] :: .row a n c 80 13 (List.flatMap EnC (M)) :: H)) (n := j + 1) ?_ ?_
 ·exact ⟨j, L, rfl, ⟨hn.symm, hj, rfl⟩, (.consI rfl (by first | omega | rfl) (.nil (by repeat first | with_reducible exact Mx.refl | with_reducible exact Mx.mix | refine Mx.put rfl ?_ | refine Mx.upd rfl ?_ | refine Mx.updl rfl ?_ | refine Mx.fin rfl ?_ | refine Mx.inner rfl ?_ | refine Mx.none ?_ | exact Mx.refl | exact Mx.mix))), rfl, rfl⟩
 ·rintro mm fr ds HH ⟨p, M, rfl, ⟨hM, hp, hup⟩, hFr, rfl, eHH⟩
  obtain rfl := eHH.symm
  obtain ⟨frU, rfl⟩ := hFr.eq
  clear hFr
  refine SW.block ?_
  refine SW.seq_k fun K0 hK0 => ?_
  refine SW.region _ _ _ _ ?_
  refine RL.p T ?_
  first | refine RL.ar ?_ | refine RL.p T ?_
  refine RL.q (QV.quo rfl rfl rfl (by omega) (up_half (p := p) (by omega))) ?_
  refine RL.p T ?_
  refine RL.nil _ _ _ _ ?_
  refine hK0 _ _ _ ?_
  refine SW.seq_k fun K1 hK1 => ?_
  refine SW.seq_k fun K2 hK2 => ?_
  refine SW.region _ _ _ _ ?_
  refine RL.p T ?_
  refine RL.p T ?_
  refine RL.p T ?_
  refine RL.p T ?_
  refine RL.sp 11 (fun hs0 => ?_) (fun hs0 => ?_)
  ·skip
   first
    | (exfalso; first | omega | contradiction | (clear hK2 K2; clear hK1 K1; clear hK0 K0; simp at *; done))
    | (
     refine RL.guard_no rfl rfl rfl ?_
     refine RL.guard_no rfl rfl rfl ?_
     refine RL.guard_no rfl rfl rfl ?_
     refine RL.guard_no rfl rfl rfl ?_
     refine RL.guard_no rfl rfl rfl ?_
     refine RL.p T ?_
     refine RL.nil _ _ _ _ ?_
     refine hK2 _ _ _ ?_
     refine SW.cond_t rfl ?_
     refine SW.exit ?_
     simp only [thenQ, blockQ, Nat.beq_refl, cond_true, cond_false, show Nat.beq 0 1 = false from rfl, show Nat.beq 2 3 = false from rfl]
     refine retQ.nn ((.var bq 73 [.int .i64 room, .int .i64 last, .slice a n c] :: .row a n c 80 13 (List.flatMap EnC (M)) :: H)) ?_
     clear hK2 K2 hK1 K1 hK0 K0
     first
       | (have h0 : p = 0 := by omega
          subst h0; rw [up_0] at hup; rw [hup]; done)
       | (have hq : ¬ ltE (gE M p) (gE M ((p - 1) / 2)) = true := by first | assumption | simpa using hc0 | simp_all
          rw [up_no hq] at hup; rw [hup]; done)
     )
  ·skip
   first
    | (exfalso; first | omega | contradiction | (clear hK2 K2; clear hK1 K1; clear hK0 K0; simp at *; done))
    | (
     refine RL.p T ?_
     refine RL.p T ?_
     refine RL.p T ?_
     refine RL.s (NV.sat (fun hs => NV.inv rfl rfl rfl (fun w hw => run_method_val (P := Try.prog) (name := "Less") (f := 108) rfl rfl rfl rfl rfl Try.prog.types.size (ld71 hw (by repeat first | exact At.head _ _ | apply At.tail))) fun108 rfl (mLess a n c M hM.symm hm (Rd.rowh hs (by repeat first | exact At.head _ _ | apply At.tail | apply At.app)) p ((p - 1) / 2) hp (by omega)) ?_) (fun c hc => by cases hc))
     rintro _ _ ⟨rfl, e⟩; obtain rfl := e.symm
     refine RL.p T ?_
     refine RL.p T ?_
     refine RL.nil _ _ _ _ ?_
     refine hK2 _ _ _ ?_
     refine SW.cs (fun hc0 => ?_) (fun hc0 => ?_)
     ·skip
      first
       | (exfalso; first | omega | contradiction | (clear hK2 K2; clear hK1 K1; clear hK0 K0; simp at *; done))
       | (
        refine SW.exit ?_
        simp only [thenQ, blockQ, Nat.beq_refl, cond_true, cond_false, show Nat.beq 0 1 = false from rfl, show Nat.beq 2 3 = false from rfl]
        refine retQ.nn ((.var bq 73 [.int .i64 room, .int .i64 last, .slice a n c] :: .row a n c 80 13 (List.flatMap EnC (M)) :: H)) ?_
        clear hK2 K2 hK1 K1 hK0 K0
        first
          | (have h0 : p = 0 := by omega
             subst h0; rw [up_0] at hup; rw [hup]; done)
          | (have hq : ¬ ltE (gE M p) (gE M ((p - 1) / 2)) = true := by first | assumption | simpa using hc0 | simp_all
             rw [up_no hq] at hup; rw [hup]; done)
        )
     ·skip
      first
       | (exfalso; first | omega | contradiction | (clear hK2 K2; clear hK1 K1; clear hK0 K0; simp at *; done))
       | (
        refine SW.skip ?_
        refine hK1 _ _ _ ?_
        refine SW.seq_k fun K3 hK3 => ?_
        refine SW.region _ _ _ _ ?_
        refine RL.p T ?_
        refine RL.p T ?_
        refine RL.p T ?_
        refine RL.s (NV.sat (fun hs => NV.inv rfl rfl rfl (fun w hw => run_method_val (P := Try.prog) (name := "Swap") (f := 109) rfl rfl rfl rfl rfl Try.prog.types.size (ld71 hw (by repeat first | exact At.head _ _ | apply At.tail))) fun109 rfl (SC.wk (mSwap a n c M hM.symm hm ((p - 1) / 2) p (by omega) hp (H := .var bq 73 [.int .i64 room, .int .i64 last, .slice a n c] :: H))) ?_) (fun c hc => by cases hc))
        rintro _ _ e; obtain rfl := e.symm
        refine RL.nil _ _ _ _ ?_
        refine hK3 _ _ _ ?_
        refine SW.region _ _ _ _ ?_
        refine RL.p T ?_
        refine RL.p T ?_
        refine RL.wk (.var bq 73 [.int .i64 room, .int .i64 last, .slice a n c] :: .row a n c 80 13 (List.flatMap EnC (swapL M ((p - 1) / 2) p)) :: H) ?_
        refine RL.nil _ _ _ _ ?_
        exact ⟨(p - 1) / 2 + 1, (by omega), (p - 1) / 2, swapL M ((p - 1) / 2) p, (by rfl), ⟨by rw [swapL_len]; exact hM, by omega, by rw [← up_yes (by omega) (by first | assumption | simpa using hc0 | simp_all)]; exact hup⟩, (.consI rfl (by first | omega | rfl) (.nil (by repeat first | with_reducible exact Mx.refl | with_reducible exact Mx.mix | refine Mx.put rfl ?_ | refine Mx.upd rfl ?_ | refine Mx.updl rfl ?_ | refine Mx.fin rfl ?_ | refine Mx.inner rfl ?_ | refine Mx.none ?_ | exact Mx.refl | exact Mx.mix))), rfl, rfl⟩
        )
     )
theorem down {w0 : World} {H : List Chunk} (bq : Nat) (room last : Int) (a : Option Addr) (n c : Nat) (L : List En) (hn : n = L.length) (hm : n ≤ 100) (i0 q : Nat) (hi : i0 ≤ q) (hq : q ≤ n) : SC Try.prog w0 53 #[.iface 78 (.pointer (some ⟨bq, 2, none⟩)), .int .i64 (i0 : Nat), .int .i64 (q : Nat)] (.var bq 73 [.int .i64 room, .int .i64 last, .slice a n c] :: .row a n c 80 13 (List.flatMap EnC (L)) :: H) (fun v H' => v = .bool (decide (i0 < (downL L i0 q).2)) ∧ H' = (.var bq 73 [.int .i64 room, .int .i64 last, .slice a n c] :: .row a n c 80 13 (List.flatMap EnC ((downL L i0 q).1)) :: H)) := by
 refine SC.enter Try.func53 rfl (Nat.le_of_ble_eq_true rfl) ?_
 refine SW.seq_k fun K0 hK0 => ?_
 refine SW.region _ _ _ _ ?_
 refine RL.p T ?_
 refine RL.nil _ _ _ _ ?_
 refine hK0 _ _ _ ?_
 refine SW.seq_k fun K1 hK1 => ?_
 refine SW.region _ _ _ _ ?_
 refine RL.p T ?_
 refine RL.p T ?_
 refine RL.nil _ _ _ _ ?_
 refine hK1 _ _ _ ?_
 refine SW.seq_k fun K2 hK2 => ?_
 refine SW.block ?_
 refine SW.loopM (fun frB mm fr ds HH => ∃ (i : Nat) (M : List En), mm = q + 1 - i ∧ (M.length = n ∧ i ≤ q ∧ downL M i q = downL L i0 q) ∧ FrIs [7, 8, 9, 10, 12, 13, 14, 15, 16, 17, 18, 19, 20, 21, 22, 23, 24, 25, 26, 27, 28, 29, 30, 31, 32, 33, 34, 35, 36, 37, 38, 39, 40, 41, 42, 43, 44] frB fr [(7, .int .i64 i)] ∧ ds = [] ∧ HH = (.var bq 73 [.int .i64 room, .int .i64 last, .slice a n c] :: .row a n c 80 13 (List.flatMap EnC (M)) :: H)) (n := q + 1 - i0) ?_ ?_
 ·exact ⟨i0, L, rfl, ⟨hn.symm, hi, rfl⟩, (.consI rfl (by first | omega | rfl) (.nil (by repeat first | with_reducible exact Mx.refl | with_reducible exact Mx.mix | refine Mx.put rfl ?_ | refine Mx.upd rfl ?_ | refine Mx.updl rfl ?_ | refine Mx.fin rfl ?_ | refine Mx.inner rfl ?_ | refine Mx.none ?_ | exact Mx.refl | exact Mx.mix))), rfl, rfl⟩
 ·rintro mm fr ds HH ⟨i, M, rfl, ⟨hM, hiq, hdn⟩, hFr, rfl, eHH⟩
  obtain rfl := eHH.symm
  obtain ⟨frU, rfl⟩ := hFr.eq
  clear hFr
  refine SW.block ?_
  refine SW.seq_k fun K3 hK3 => ?_
  refine SW.region _ _ _ _ ?_
  refine RL.p T ?_
  refine RL.q (QV.as (QV.arith rfl rfl rfl rfl (by omega) (by omega)) (show _ = Value.int .i64 ((2 * i : Nat) : Int) from congrArg _ (by omega))) ?_
  refine RL.q (QV.as (QV.arith rfl rfl rfl rfl (by omega) (by omega)) (show _ = Value.int .i64 ((2 * i + 1 : Nat) : Int) from congrArg _ (by omega))) ?_
  refine RL.p T ?_
  refine RL.nil _ _ _ _ ?_
  refine hK3 _ _ _ ?_
  refine SW.seq_k fun K4 hK4 => ?_
  refine SW.seq_k fun K5 hK5 => ?_
  refine SW.region _ _ _ _ ?_
  refine RL.p T ?_
  refine RL.p T ?_
  refine RL.p T ?_
  refine RL.p T ?_
  refine RL.sp 18 (fun hs0 => ?_) (fun hs0 => ?_)
  ·skip
   first
    | (exfalso; first | omega | contradiction | (clear hK5 K5; clear hK4 K4; clear hK3 K3; clear hK2 K2; clear hK1 K1; clear hK0 K0; simp at *; done))
    | (
     refine RL.guard_no rfl rfl rfl ?_
     refine RL.guard_no rfl rfl rfl ?_
     refine RL.p T ?_
     refine RL.nil _ _ _ _ ?_
     refine hK5 _ _ _ ?_
     refine SW.cond_t rfl ?_
     refine SW.exit ?_
     refine hK2 _ _ _ ?_
     refine SW.seq_k fun K6 hK6 => ?_
     refine SW.region _ _ _ _ ?_
     refine RL.p T ?_
     refine RL.p T ?_
     refine RL.p T ?_
     refine RL.p T ?_
     refine RL.nil _ _ _ _ ?_
     refine hK6 _ _ _ ?_
     refine SW.ret ?_
     refine retQ.rr ((.var bq 73 [.int .i64 room, .int .i64 last, .slice a n c] :: .row a n c 80 13 (List.flatMap EnC (M)) :: H)) ?_
     clear hK6 K6 hK5 K5 hK4 K4 hK3 K3 hK2 K2 hK1 K1 hK0 K0
     first
       | (rw [down_end (by omega)] at hdn; rw [← hdn]; refine ⟨boolE (decide_eq_decide.2 ?_), rfl⟩; dsimp only; omega)
       | (rw [down_nop (j := 2 * i + 2) (by omega) (kid_2 (by omega) (by assumption)) (by first | assumption | simp_all)] at hdn; rw [← hdn]; refine ⟨boolE (decide_eq_decide.2 ?_), rfl⟩; dsimp only; omega)
       | (rw [down_nop (j := 2 * i + 1) (by omega) (kid_1 (fun hq => by first | omega | (have := hq.2; simp_all; done))) (by first | assumption | simp_all)] at hdn; rw [← hdn]; refine ⟨boolE (decide_eq_decide.2 ?_), rfl⟩; dsimp only; omega)
     )
  ·skip
   first
    | (exfalso; first | omega | contradiction | (clear hK5 K5; clear hK4 K4; clear hK3 K3; clear hK2 K2; clear hK1 K1; clear hK0 K0; simp at *; done))
    | (
     refine RL.p T ?_
     refine RL.p T ?_
     refine RL.p T ?_
     refine RL.nil _ _ _ _ ?_
     refine hK5 _ _ _ ?_
     refine SW.cs (fun hc0 => ?_) (fun hc0 => ?_)
     ·skip
      first
       | (exfalso; first | omega | contradiction | (clear hK5 K5; clear hK4 K4; clear hK3 K3; clear hK2 K2; clear hK1 K1; clear hK0 K0; simp at *; done))
       | (
        refine SW.exit ?_
        refine hK2 _ _ _ ?_
        refine SW.seq_k fun K7 hK7 => ?_
        refine SW.region _ _ _ _ ?_
        refine RL.p T ?_
        refine RL.p T ?_
        refine RL.p T ?_
        refine RL.p T ?_
        refine RL.nil _ _ _ _ ?_
        refine hK7 _ _ _ ?_
        refine SW.ret ?_
        refine retQ.rr ((.var bq 73 [.int .i64 room, .int .i64 last, .slice a n c] :: .row a n c 80 13 (List.flatMap EnC (M)) :: H)) ?_
        clear hK7 K7 hK5 K5 hK4 K4 hK3 K3 hK2 K2 hK1 K1 hK0 K0
        first
          | (rw [down_end (by omega)] at hdn; rw [← hdn]; refine ⟨boolE (decide_eq_decide.2 ?_), rfl⟩; dsimp only; omega)
          | (rw [down_nop (j := 2 * i + 2) (by omega) (kid_2 (by omega) (by assumption)) (by first | assumption | simp_all)] at hdn; rw [← hdn]; refine ⟨boolE (decide_eq_decide.2 ?_), rfl⟩; dsimp only; omega)
          | (rw [down_nop (j := 2 * i + 1) (by omega) (kid_1 (fun hq => by first | omega | (have := hq.2; simp_all; done))) (by first | assumption | simp_all)] at hdn; rw [← hdn]; refine ⟨boolE (decide_eq_decide.2 ?_), rfl⟩; dsimp only; omega)
        )
     ·skip
      first
       | (exfalso; first | omega | contradiction | (clear hK5 K5; clear hK4 K4; clear hK3 K3; clear hK2 K2; clear hK1 K1; clear hK0 K0; simp at *; done))
       | (
        refine SW.skip ?_
        refine hK4 _ _ _ ?_
        refine SW.seq_k fun K8 hK8 => ?_
        refine SW.region _ _ _ _ ?_
        refine RL.p T ?_
        refine RL.p T ?_
        refine RL.nil _ _ _ _ ?_
        refine hK8 _ _ _ ?_
        refine SW.seq_k fun K9 hK9 => ?_
        refine SW.seq_k fun K10 hK10 => ?_
        refine SW.region _ _ _ _ ?_
        refine RL.p T ?_
        refine RL.q (QV.as (QV.arith rfl rfl rfl rfl (by omega) (by omega)) (show _ = Value.int .i64 ((2 * i + 2 : Nat) : Int) from congrArg _ (by omega))) ?_
        refine RL.p T ?_
        refine RL.nil _ _ _ _ ?_
        refine hK10 _ _ _ ?_
        refine SW.seq_k fun K11 hK11 => ?_
        refine SW.region _ _ _ _ ?_
        refine RL.p T ?_
        refine RL.p T ?_
        refine RL.p T ?_
        refine RL.p T ?_
        refine RL.sp 28 (fun hs1 => ?_) (fun hs1 => ?_)
        ·skip
         first
          | (exfalso; first | omega | contradiction | (clear hK11 K11; clear hK10 K10; clear hK9 K9; clear hK8 K8; clear hK5 K5; clear hK4 K4; clear hK3 K3; clear hK2 K2; clear hK1 K1; clear hK0 K0; simp at *; done))
          | (
           refine RL.p T ?_
           refine RL.p T ?_
           refine RL.p T ?_
           refine RL.s (NV.sat (fun hs => NV.inv rfl rfl rfl (fun w hw => run_method_val (P := Try.prog) (name := "Less") (f := 108) rfl rfl rfl rfl rfl Try.prog.types.size (ld71 hw (by repeat first | exact At.head _ _ | apply At.tail))) fun108 rfl (mLess a n c M hM.symm hm (Rd.rowh hs (by repeat first | exact At.head _ _ | apply At.tail | apply At.app)) (2 * i + 2) (2 * i + 1) (by omega) (by omega)) ?_) (fun c hc => by cases hc))
           rintro _ _ ⟨rfl, e⟩; obtain rfl := e.symm
           refine RL.p T ?_
           refine RL.nil _ _ _ _ ?_
           refine hK11 _ _ _ ?_
           refine SW.cs (fun hc1 => ?_) (fun hc1 => ?_)
           ·skip
            first
             | (exfalso; first | omega | contradiction | (clear hK11 K11; clear hK10 K10; clear hK9 K9; clear hK8 K8; clear hK5 K5; clear hK4 K4; clear hK3 K3; clear hK2 K2; clear hK1 K1; clear hK0 K0; simp at *; done))
             | (
              refine SW.region _ _ _ _ ?_
              refine RL.p T ?_
              refine RL.p T ?_
              refine RL.nil _ _ _ _ ?_
              refine hK9 _ _ _ ?_
              refine SW.seq_k fun K12 hK12 => ?_
              refine SW.seq_k fun K13 hK13 => ?_
              refine SW.region _ _ _ _ ?_
              refine RL.p T ?_
              refine RL.p T ?_
              refine RL.p T ?_
              refine RL.s (NV.sat (fun hs => NV.inv rfl rfl rfl (fun w hw => run_method_val (P := Try.prog) (name := "Less") (f := 108) rfl rfl rfl rfl rfl Try.prog.types.size (ld71 hw (by repeat first | exact At.head _ _ | apply At.tail))) fun108 rfl (mLess a n c M hM.symm hm (Rd.rowh hs (by repeat first | exact At.head _ _ | apply At.tail | apply At.app)) _ i (by omega) (by omega)) ?_) (fun c hc => by cases hc))
              rintro _ _ ⟨rfl, e⟩; obtain rfl := e.symm
              refine RL.p T ?_
              refine RL.nil _ _ _ _ ?_
              refine hK13 _ _ _ ?_
              refine SW.cs (fun hc2 => ?_) (fun hc2 => ?_)
              ·skip
               first
                | (exfalso; first | omega | contradiction | (clear hK13 K13; clear hK12 K12; clear hK11 K11; clear hK10 K10; clear hK9 K9; clear hK8 K8; clear hK5 K5; clear hK4 K4; clear hK3 K3; clear hK2 K2; clear hK1 K1; clear hK0 K0; simp at *; done))
                | (
                 refine SW.exit ?_
                 refine hK2 _ _ _ ?_
                 refine SW.seq_k fun K14 hK14 => ?_
                 refine SW.region _ _ _ _ ?_
                 refine RL.p T ?_
                 refine RL.p T ?_
                 refine RL.p T ?_
                 refine RL.p T ?_
                 refine RL.nil _ _ _ _ ?_
                 refine hK14 _ _ _ ?_
                 refine SW.ret ?_
                 refine retQ.rr ((.var bq 73 [.int .i64 room, .int .i64 last, .slice a n c] :: .row a n c 80 13 (List.flatMap EnC (M)) :: H)) ?_
                 clear hK14 K14 hK13 K13 hK12 K12 hK11 K11 hK10 K10 hK9 K9 hK8 K8 hK5 K5 hK4 K4 hK3 K3 hK2 K2 hK1 K1 hK0 K0
                 first
                   | (rw [down_end (by omega)] at hdn; rw [← hdn]; refine ⟨boolE (decide_eq_decide.2 ?_), rfl⟩; dsimp only; omega)
                   | (rw [down_nop (j := 2 * i + 2) (by omega) (kid_2 (by omega) (by assumption)) (by first | assumption | simp_all)] at hdn; rw [← hdn]; refine ⟨boolE (decide_eq_decide.2 ?_), rfl⟩; dsimp only; omega)
                   | (rw [down_nop (j := 2 * i + 1) (by omega) (kid_1 (fun hq => by first | omega | (have := hq.2; simp_all; done))) (by first | assumption | simp_all)] at hdn; rw [← hdn]; refine ⟨boolE (decide_eq_decide.2 ?_), rfl⟩; dsimp only; omega)
                 )
              ·skip
               first
                | (exfalso; first | omega | contradiction | (clear hK13 K13; clear hK12 K12; clear hK11 K11; clear hK10 K10; clear hK9 K9; clear hK8 K8; clear hK5 K5; clear hK4 K4; clear hK3 K3; clear hK2 K2; clear hK1 K1; clear hK0 K0; simp at *; done))
                | (
                 refine SW.skip ?_
                 refine hK12 _ _ _ ?_
                 refine SW.seq_k fun K15 hK15 => ?_
                 refine SW.region _ _ _ _ ?_
                 refine RL.p T ?_
                 refine RL.p T ?_
                 refine RL.p T ?_
                 refine RL.s (NV.sat (fun hs => NV.inv rfl rfl rfl (fun w hw => run_method_val (P := Try.prog) (name := "Swap") (f := 109) rfl rfl rfl rfl rfl Try.prog.types.size (ld71 hw (by repeat first | exact At.head _ _ | apply At.tail))) fun109 rfl (SC.wk (mSwap a n c M hM.symm hm i _ (by omega) (by omega) (H := .var bq 73 [.int .i64 room, .int .i64 last, .slice a n c] :: H))) ?_) (fun c hc => by cases hc))
                 rintro _ _ e; obtain rfl := e.symm
                 first
                   | refine RL.wk (hs := SubI.out) (.var bq 73 [.int .i64 room, .int .i64 last, .slice a n c] :: .row a n c 80 13 (List.flatMap EnC (swapL M i (2 * i + 2))) :: H) ?_
                   | refine RL.wk (hs := SubI.out) (.var bq 73 [.int .i64 room, .int .i64 last, .slice a n c] :: .row a n c 80 13 (List.flatMap EnC (swapL M i (2 * i + 1))) :: H) ?_
                 refine RL.nil _ _ _ _ ?_
                 refine hK15 _ _ _ ?_
                 refine SW.region _ _ _ _ ?_
                 refine RL.p T ?_
                 refine RL.p T ?_
                 refine RL.nil _ _ _ _ ?_
                 first
                   | exact ⟨q + 1 - (2 * i + 2), (by omega), (2 * i + 2), swapL M i (2 * i + 2), (by rfl), ⟨by rw [swapL_len]; exact hM, by omega, by rw [← down_stp (by omega) (kid_2 (by omega) (by assumption)) (by assumption)]; exact hdn⟩, (.consI rfl (by first | omega | rfl) (.nil (by repeat first | with_reducible exact Mx.refl | with_reducible exact Mx.mix | refine Mx.put rfl ?_ | refine Mx.upd rfl ?_ | refine Mx.updl rfl ?_ | refine Mx.fin rfl ?_ | refine Mx.inner rfl ?_ | refine Mx.none ?_ | exact Mx.refl | exact Mx.mix))), rfl, rfl⟩
                   | exact ⟨q + 1 - (2 * i + 1), (by omega), (2 * i + 1), swapL M i (2 * i + 1), (by rfl), ⟨by rw [swapL_len]; exact hM, by omega, by rw [← down_stp (by omega) (kid_1 (fun hq => by first | omega | (have := hq.2; simp_all; done))) (by assumption)]; exact hdn⟩, (.consI rfl (by first | omega | rfl) (.nil (by repeat first | with_reducible exact Mx.refl | with_reducible exact Mx.mix | refine Mx.put rfl ?_ | refine Mx.upd rfl ?_ | refine Mx.updl rfl ?_ | refine Mx.fin rfl ?_ | refine Mx.inner rfl ?_ | refine Mx.none ?_ | exact Mx.refl | exact Mx.mix))), rfl, rfl⟩
                 )
              )
           ·skip
            first
             | (exfalso; first | omega | contradiction | (clear hK11 K11; clear hK10 K10; clear hK9 K9; clear hK8 K8; clear hK5 K5; clear hK4 K4; clear hK3 K3; clear hK2 K2; clear hK1 K1; clear hK0 K0; simp at *; done))
             | (
              refine SW.skip ?_
              refine hK9 _ _ _ ?_
              refine SW.seq_k fun K16 hK16 => ?_
              refine SW.seq_k fun K17 hK17 => ?_
              refine SW.region _ _ _ _ ?_
              refine RL.p T ?_
              refine RL.p T ?_
              refine RL.p T ?_
              refine RL.s (NV.sat (fun hs => NV.inv rfl rfl rfl (fun w hw => run_method_val (P := Try.prog) (name := "Less") (f := 108) rfl rfl rfl rfl rfl Try.prog.types.size (ld71 hw (by repeat first | exact At.head _ _ | apply At.tail))) fun108 rfl (mLess a n c M hM.symm hm (Rd.rowh hs (by repeat first | exact At.head _ _ | apply At.tail | apply At.app)) _ i (by omega) (by omega)) ?_) (fun c hc => by cases hc))
              rintro _ _ ⟨rfl, e⟩; obtain rfl := e.symm
              refine RL.p T ?_
              refine RL.nil _ _ _ _ ?_
              refine hK17 _ _ _ ?_
              refine SW.cs (fun hc3 => ?_) (fun hc3 => ?_)
              ·skip
               first
                | (exfalso; first | omega | contradiction | (clear hK17 K17; clear hK16 K16; clear hK11 K11; clear hK10 K10; clear hK9 K9; clear hK8 K8; clear hK5 K5; clear hK4 K4; clear hK3 K3; clear hK2 K2; clear hK1 K1; clear hK0 K0; simp at *; done))
                | (
                 refine SW.exit ?_
                 refine hK2 _ _ _ ?_
                 refine SW.seq_k fun K18 hK18 => ?_
                 refine SW.region _ _ _ _ ?_
                 refine RL.p T ?_
                 refine RL.p T ?_
                 refine RL.p T ?_
                 refine RL.p T ?_
                 refine RL.nil _ _ _ _ ?_
                 refine hK18 _ _ _ ?_
                 refine SW.ret ?_
                 refine retQ.rr ((.var bq 73 [.int .i64 room, .int .i64 last, .slice a n c] :: .row a n c 80 13 (List.flatMap EnC (M)) :: H)) ?_
                 clear hK18 K18 hK17 K17 hK16 K16 hK11 K11 hK10 K10 hK9 K9 hK8 K8 hK5 K5 hK4 K4 hK3 K3 hK2 K2 hK1 K1 hK0 K0
                 first
                   | (rw [down_end (by omega)] at hdn; rw [← hdn]; refine ⟨boolE (decide_eq_decide.2 ?_), rfl⟩; dsimp only; omega)
                   | (rw [down_nop (j := 2 * i + 2) (by omega) (kid_2 (by omega) (by assumption)) (by first | assumption | simp_all)] at hdn; rw [← hdn]; refine ⟨boolE (decide_eq_decide.2 ?_), rfl⟩; dsimp only; omega)
                   | (rw [down_nop (j := 2 * i + 1) (by omega) (kid_1 (fun hq => by first | omega | (have := hq.2; simp_all; done))) (by first | assumption | simp_all)] at hdn; rw [← hdn]; refine ⟨boolE (decide_eq_decide.2 ?_), rfl⟩; dsimp only; omega)
                 )
              ·skip
               first
                | (exfalso; first | omega | contradiction | (clear hK17 K17; clear hK16 K16; clear hK11 K11; clear hK10 K10; clear hK9 K9; clear hK8 K8; clear hK5 K5; clear hK4 K4; clear hK3 K3; clear hK2 K2; clear hK1 K1; clear hK0 K0; simp at *; done))
                | (
                 refine SW.skip ?_
                 refine hK16 _ _ _ ?_
                 refine SW.seq_k fun K19 hK19 => ?_
                 refine SW.region _ _ _ _ ?_
                 refine RL.p T ?_
                 refine RL.p T ?_
                 refine RL.p T ?_
                 refine RL.s (NV.sat (fun hs => NV.inv rfl rfl rfl (fun w hw => run_method_val (P := Try.prog) (name := "Swap") (f := 109) rfl rfl rfl rfl rfl Try.prog.types.size (ld71 hw (by repeat first | exact At.head _ _ | apply At.tail))) fun109 rfl (SC.wk (mSwap a n c M hM.symm hm i _ (by omega) (by omega) (H := .var bq 73 [.int .i64 room, .int .i64 last, .slice a n c] :: H))) ?_) (fun c hc => by cases hc))
                 rintro _ _ e; obtain rfl := e.symm
                 first
                   | refine RL.wk (hs := SubI.out) (.var bq 73 [.int .i64 room, .int .i64 last, .slice a n c] :: .row a n c 80 13 (List.flatMap EnC (swapL M i (2 * i + 2))) :: H) ?_
                   | refine RL.wk (hs := SubI.out) (.var bq 73 [.int .i64 room, .int .i64 last, .slice a n c] :: .row a n c 80 13 (List.flatMap EnC (swapL M i (2 * i + 1))) :: H) ?_
                 refine RL.nil _ _ _ _ ?_
                 refine hK19 _ _ _ ?_
                 refine SW.region _ _ _ _ ?_
                 refine RL.p T ?_
                 refine RL.p T ?_
                 refine RL.nil _ _ _ _ ?_
                 first
                   | exact ⟨q + 1 - (2 * i + 2), (by omega), (2 * i + 2), swapL M i (2 * i + 2), (by rfl), ⟨by rw [swapL_len]; exact hM, by omega, by rw [← down_stp (by omega) (kid_2 (by omega) (by assumption)) (by assumption)]; exact hdn⟩, (.consI rfl (by first | omega | rfl) (.nil (by repeat first | with_reducible exact Mx.refl | with_reducible exact Mx.mix | refine Mx.put rfl ?_ | refine Mx.upd rfl ?_ | refine Mx.updl rfl ?_ | refine Mx.fin rfl ?_ | refine Mx.inner rfl ?_ | refine Mx.none ?_ | exact Mx.refl | exact Mx.mix))), rfl, rfl⟩
                   | exact ⟨q + 1 - (2 * i + 1), (by omega), (2 * i + 1), swapL M i (2 * i + 1), (by rfl), ⟨by rw [swapL_len]; exact hM, by omega, by rw [← down_stp (by omega) (kid_1 (fun hq => by first | omega | (have := hq.2; simp_all; done))) (by assumption)]; exact hdn⟩, (.consI rfl (by first | omega | rfl) (.nil (by repeat first | with_reducible exact Mx.refl | with_reducible exact Mx.mix | refine Mx.put rfl ?_ | refine Mx.upd rfl ?_ | refine Mx.updl rfl ?_ | refine Mx.fin rfl ?_ | refine Mx.inner rfl ?_ | refine Mx.none ?_ | exact Mx.refl | exact Mx.mix))), rfl, rfl⟩
                 )
              )
           )
        ·skip
         first
          | (exfalso; first | omega | contradiction | (clear hK11 K11; clear hK10 K10; clear hK9 K9; clear hK8 K8; clear hK5 K5; clear hK4 K4; clear hK3 K3; clear hK2 K2; clear hK1 K1; clear hK0 K0; simp at *; done))
          | (
           refine RL.guard_no rfl rfl rfl ?_
           refine RL.guard_no rfl rfl rfl ?_
           refine RL.guard_no rfl rfl rfl ?_
           refine RL.guard_no rfl rfl rfl ?_
           refine RL.p T ?_
           refine RL.nil _ _ _ _ ?_
           refine hK11 _ _ _ ?_
           refine SW.cond_f rfl ?_
           refine SW.skip ?_
           refine hK9 _ _ _ ?_
           refine SW.seq_k fun K20 hK20 => ?_
           refine SW.seq_k fun K21 hK21 => ?_
           refine SW.region _ _ _ _ ?_
           refine RL.p T ?_
           refine RL.p T ?_
           refine RL.p T ?_
           refine RL.s (NV.sat (fun hs => NV.inv rfl rfl rfl (fun w hw => run_method_val (P := Try.prog) (name := "Less") (f := 108) rfl rfl rfl rfl rfl Try.prog.types.size (ld71 hw (by repeat first | exact At.head _ _ | apply At.tail))) fun108 rfl (mLess a n c M hM.symm hm (Rd.rowh hs (by repeat first | exact At.head _ _ | apply At.tail | apply At.app)) _ i (by omega) (by omega)) ?_) (fun c hc => by cases hc))
           rintro _ _ ⟨rfl, e⟩; obtain rfl := e.symm
           refine RL.p T ?_
           refine RL.nil _ _ _ _ ?_
           refine hK21 _ _ _ ?_
           refine SW.cs (fun hc4 => ?_) (fun hc4 => ?_)
           ·skip
            first
             | (exfalso; first | omega | contradiction | (clear hK21 K21; clear hK20 K20; clear hK11 K11; clear hK10 K10; clear hK9 K9; clear hK8 K8; clear hK5 K5; clear hK4 K4; clear hK3 K3; clear hK2 K2; clear hK1 K1; clear hK0 K0; simp at *; done))
             | (
              refine SW.exit ?_
              refine hK2 _ _ _ ?_
              refine SW.seq_k fun K22 hK22 => ?_
              refine SW.region _ _ _ _ ?_
              refine RL.p T ?_
              refine RL.p T ?_
              refine RL.p T ?_
              refine RL.p T ?_
              refine RL.nil _ _ _ _ ?_
              refine hK22 _ _ _ ?_
              refine SW.ret ?_
              refine retQ.rr ((.var bq 73 [.int .i64 room, .int .i64 last, .slice a n c] :: .row a n c 80 13 (List.flatMap EnC (M)) :: H)) ?_
              clear hK22 K22 hK21 K21 hK20 K20 hK11 K11 hK10 K10 hK9 K9 hK8 K8 hK5 K5 hK4 K4 hK3 K3 hK2 K2 hK1 K1 hK0 K0
              first
                | (rw [down_end (by omega)] at hdn; rw [← hdn]; refine ⟨boolE (decide_eq_decide.2 ?_), rfl⟩; dsimp only; omega)
                | (rw [down_nop (j := 2 * i + 2) (by omega) (kid_2 (by omega) (by assumption)) (by first | assumption | simp_all)] at hdn; rw [← hdn]; refine ⟨boolE (decide_eq_decide.2 ?_), rfl⟩; dsimp only; omega)
                | (rw [down_nop (j := 2 * i + 1) (by omega) (kid_1 (fun hq => by first | omega | (have := hq.2; simp_all; done))) (by first | assumption | simp_all)] at hdn; rw [← hdn]; refine ⟨boolE (decide_eq_decide.2 ?_), rfl⟩; dsimp only; omega)
              )
           ·skip
            first
             | (exfalso; first | omega | contradiction | (clear hK21 K21; clear hK20 K20; clear hK11 K11; clear hK10 K10; clear hK9 K9; clear hK8 K8; clear hK5 K5; clear hK4 K4; clear hK3 K3; clear hK2 K2; clear hK1 K1; clear hK0 K0; simp at *; done))
             | (
              refine SW.skip ?_
              refine hK20 _ _ _ ?_
              refine SW.seq_k fun K23 hK23 => ?_
              refine SW.region _ _ _ _ ?_
              refine RL.p T ?_
              refine RL.p T ?_
              refine RL.p T ?_
              refine RL.s (NV.sat (fun hs => NV.inv rfl rfl rfl (fun w hw => run_method_val (P := Try.prog) (name := "Swap") (f := 109) rfl rfl rfl rfl rfl Try.prog.types.size (ld71 hw (by repeat first | exact At.head _ _ | apply At.tail))) fun109 rfl (SC.wk (mSwap a n c M hM.symm hm i _ (by omega) (by omega) (H := .var bq 73 [.int .i64 room, .int .i64 last, .slice a n c] :: H))) ?_) (fun c hc => by cases hc))
              rintro _ _ e; obtain rfl := e.symm
              first
                | refine RL.wk (hs := SubI.out) (.var bq 73 [.int .i64 room, .int .i64 last, .slice a n c] :: .row a n c 80 13 (List.flatMap EnC (swapL M i (2 * i + 2))) :: H) ?_
                | refine RL.wk (hs := SubI.out) (.var bq 73 [.int .i64 room, .int .i64 last, .slice a n c] :: .row a n c 80 13 (List.flatMap EnC (swapL M i (2 * i + 1))) :: H) ?_
              refine RL.nil _ _ _ _ ?_
              refine hK23 _ _ _ ?_
              refine SW.region _ _ _ _ ?_
              refine RL.p T ?_
              refine RL.p T ?_
              refine RL.nil _ _ _ _ ?_
              first
                | exact ⟨q + 1 - (2 * i + 2), (by omega), (2 * i + 2), swapL M i (2 * i + 2), (by rfl), ⟨by rw [swapL_len]; exact hM, by omega, by rw [← down_stp (by omega) (kid_2 (by omega) (by assumption)) (by assumption)]; exact hdn⟩, (.consI rfl (by first | omega | rfl) (.nil (by repeat first | with_reducible exact Mx.refl | with_reducible exact Mx.mix | refine Mx.put rfl ?_ | refine Mx.upd rfl ?_ | refine Mx.updl rfl ?_ | refine Mx.fin rfl ?_ | refine Mx.inner rfl ?_ | refine Mx.none ?_ | exact Mx.refl | exact Mx.mix))), rfl, rfl⟩
                | exact ⟨q + 1 - (2 * i + 1), (by omega), (2 * i + 1), swapL M i (2 * i + 1), (by rfl), ⟨by rw [swapL_len]; exact hM, by omega, by rw [← down_stp (by omega) (kid_1 (fun hq => by first | omega | (have := hq.2; simp_all; done))) (by assumption)]; exact hdn⟩, (.consI rfl (by first | omega | rfl) (.nil (by repeat first | with_reducible exact Mx.refl | with_reducible exact Mx.mix | refine Mx.put rfl ?_ | refine Mx.upd rfl ?_ | refine Mx.updl rfl ?_ | refine Mx.fin rfl ?_ | refine Mx.inner rfl ?_ | refine Mx.none ?_ | exact Mx.refl | exact Mx.mix))), rfl, rfl⟩
              )
           )
        )
     )
end Go.Proofs.Ytjemdjjmpgjieaa.M
