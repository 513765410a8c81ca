import Derived.Test.YtlgdfoniijmlbaaDoorProg
import Derived.Test.YtlgdfoniijmlbaaDoorFB20D
set_option linter.unusedVariables false
set_option linter.unusedSimpArgs false
namespace Go.Proofs.YtlgdfoniijmlbaaDoor.M
open Go Go.Sep Go.Proofs
set_option maxRecDepth 10000
set_option maxHeartbeats 2000000
theorem awayV {w0 : World} {H : List Chunk} (b room wait age : Nat) (used : Int) (la : Option Addr) (ln lc : Nat) (l : List Pd) (hn : ln = l.length) (hu : used = (usedM (mg l) : Nat)) (hu2 : usedM (mg l) ≤ 2048) (hok : ∀ y ∈ l, PdOk w0 H y) (oa : Option Addr) (on oc : Nat) (os : List Sl) (hos : on ≤ 100) (hon : on = os.length) : SC Tryd.prog w0 20 #[.pointer (some ⟨b, 0, none⟩), .slice oa on oc] (.row oa on oc 30 1 (List.flatMap SlC os) :: .var b 55 [.int .i64 ((room : Nat) : Int), .int .i64 ((wait : Nat) : Int), .slice la ln lc, .int .i64 used, .int .i64 ((age : Nat) : Int)] :: .row la ln lc 35 2 (List.flatMap PdC l) :: H) (fun v H' => ∃ D oa' on' oc' os' la' ln' lc' l' age' used', v = .slice oa' on' oc' ∧ H' = .row oa' on' oc' 30 1 (List.flatMap SlC os') :: .var b 55 [.int .i64 ((room : Nat) : Int), .int .i64 ((wait : Nat) : Int), .slice la' ln' lc', .int .i64 used', .int .i64 ((age' : Nat) : Int)] :: .row la' ln' lc' 35 2 (List.flatMap PdC l') :: (D ++ H) ∧ on' = os'.length ∧ ln' = l'.length ∧ used' = (usedM (mg l') : Nat) ∧ outD os' = outD os ++ flushO (mg l) ∧ mg l' = [] ∧ age' = (if l = [] then age else 0) ∧ (∀ q ∈ os', q ∈ os ∨ SlOk w0 D q) ∧ (∀ y ∈ l', y ∈ l ∨ PdOk w0 D y)) := by
  by_cases h0 : l = []
  · subst h0
    obtain rfl : ln = 0 := hn
    refine SC.out (SC.wk (away_nil b room wait age used la lc oa on oc (H := .row oa on oc 30 1 (List.flatMap SlC os) :: .row la 0 lc 35 2 (List.flatMap PdC []) :: H))) ?_
    rintro _ _ ⟨rfl, rfl⟩
    exact ⟨.row oa on oc 30 1 (List.flatMap SlC os) :: .var b 55 [.int .i64 ((room : Nat) : Int), .int .i64 ((wait : Nat) : Int), .slice la 0 lc, .int .i64 used, .int .i64 ((age : Nat) : Int)] :: .row la 0 lc 35 2 (List.flatMap PdC []) :: ([] ++ H), SubL.by, [], oa, on, oc, os, la, 0, lc, [], age, used, rfl, rfl, hon, rfl, hu, by simp [flushO, mg], rfl, by simp, fun q hq => .inl hq, fun y hy => .inl hy⟩
  · have hl : 0 < l.length := List.length_pos_iff.2 h0
    refine SC.outS (away_ok b room wait age used la ln lc l hn hu hu2 hl hok oa on oc os hos) ?_
    rintro _ _ hs ⟨oa', oc', a, c, rfl, rfl⟩
    have hr := Rd.rowh (w0 := w0) (satT (H0 := [.row a (usedM (mg l)) c 5 1 (List.map (Value.int .u8) (joinB (mg l))), .row la ln lc 35 2 (List.flatMap PdC l)]) hs) (At.head _ _)
    refine ⟨_, SubL.refl _, [.row a (usedM (mg l)) c 5 1 (List.map (Value.int .u8) (joinB (mg l))), .row la ln lc 35 2 (List.flatMap PdC l)], oa', on + 1, oc', _, none, 0, 0, [], 0, 0, rfl, rfl, by simp [hon], rfl, rfl, ?_, rfl, by rw [if_neg h0], ?_, fun y hy => by cases hy⟩
    · rw [flushO, if_neg (by rw [mg_nil]; exact h0)]
      simp [outD]
    · intro q hq
      rcases List.mem_append.1 hq with hq | hq
      · exact .inl hq
      · rw [List.mem_singleton.1 hq]
        exact .inr ⟨(joinB_len _).symm, by show usedM (mg l) ≤ _; omega, joinB_byte hok hu2, hr⟩
theorem psizeB {w0 : World} {H : List Chunk} (p : Pd) (hp : PdOk w0 H p) (h : 2048 < wk (mgP p)) : SC Tryd.prog w0 12 #[PdA p] H (fun v H' => v = .tuple #[.int .i64 0, .int .i64 2] ∧ H' = H) := by
  have := psize p hp; rw [sizeP_gt h] at this; exact this
theorem psizeO {w0 : World} {H : List Chunk} (p : Pd) (hp : PdOk w0 H p) (h : wk (mgP p) ≤ 2048) : SC Tryd.prog w0 12 #[PdA p] H (fun v H' => v = .tuple #[.int .i64 ((wk (mgP p) : Nat) : Int), .int .i64 0] ∧ H' = H) := by
  have := psize p hp; rw [sizeP_mg h] at this; exact this
theorem add_nil {w0 : World} {H : List Chunk} (p : Pd) (hp : PdOk w0 H p) : SC Tryd.prog w0 9 #[.pointer none, PdA p] H (fun v H' => v = .tuple #[.slice none 0 0, .int .i64 1] ∧ H' = H) := by
 refine SC.enter Tryd.func9 rfl (Nat.le_of_ble_eq_true rfl) ?_
 refine SW.seq_k fun K0 hK0 => ?_
 refine SW.region _ _ _ _ ?_
 refine RL.s ?_
 refine NV.box rfl (by exact (rfl : _ = [_, _])) ?_
 intro b3_0
 refine RL.p T ?_
 refine RL.p T ?_
 refine RL.nil _ _ _ _ ?_
 refine hK0 _ _ _ ?_
 refine SW.seq_k fun K1 hK1 => ?_
 refine SW.seq_k fun K2 hK2 => ?_
 refine SW.region _ _ _ _ ?_
 refine RL.p T ?_
 refine RL.p T ?_
 refine RL.nil _ _ _ _ ?_
 refine hK2 _ _ _ ?_
 refine SW.cs (fun hc0 => ?_) (fun hc0 => ?_)
 ·skip
  first
   | (exfalso; first | omega | contradiction | (clear hK2 K2; clear hK1 K1; clear hK0 K0; simp at *; done))
   | (
    refine SW.seq_k fun K3 hK3 => ?_
    refine SW.region _ _ _ _ ?_
    refine RL.p T ?_
    refine RL.p T ?_
    refine RL.nil _ _ _ _ ?_
    refine hK3 _ _ _ ?_
    refine SW.ret ?_
    refine retQ.rr (H) ?_
    clear hK3 K3 hK2 K2 hK1 K1 hK0 K0
    exact ⟨rfl, rfl⟩
    )
 ·skip
  exfalso; first | omega | contradiction | (clear hK2 K2; clear hK1 K1; clear hK0 K0; simp at *; done)
theorem add_bad1 {w0 : World} {H : List Chunk} (p : Pd) (hp : PdOk w0 H p) (b room wait : Nat) (age used : Int) (la : Option Addr) (ln lc : Nat) (h : 2048 < wk (mgP p)) : SC Tryd.prog w0 9 #[.pointer (some ⟨b, 0, none⟩), PdA p] (.var b 55 [.int .i64 ((room : Nat) : Int), .int .i64 ((wait : Nat) : Int), .slice la ln lc, .int .i64 used, .int .i64 age] :: H) (fun v H' => v = .tuple #[.slice none 0 0, .int .i64 2] ∧ H' = .var b 55 [.int .i64 ((room : Nat) : Int), .int .i64 ((wait : Nat) : Int), .slice la ln lc, .int .i64 used, .int .i64 age] :: H) := by
 refine SC.enter Tryd.func9 rfl (Nat.le_of_ble_eq_true rfl) ?_
 refine SW.seq_k fun K0 hK0 => ?_
 refine SW.region _ _ _ _ ?_
 refine RL.s ?_
 refine NV.box rfl (by exact (rfl : _ = [_, _])) ?_
 intro b3_0
 refine RL.p T ?_
 refine RL.p T ?_
 refine RL.nil _ _ _ _ ?_
 refine hK0 _ _ _ ?_
 refine SW.seq_k fun K1 hK1 => ?_
 refine SW.seq_k fun K2 hK2 => ?_
 refine SW.region _ _ _ _ ?_
 refine RL.p T ?_
 refine RL.p T ?_
 refine RL.nil _ _ _ _ ?_
 refine hK2 _ _ _ ?_
 refine SW.cs (fun hc0 => ?_) (fun hc0 => ?_)
 ·skip
  first
   | (exfalso; first | omega | contradiction | (clear hK2 K2; clear hK1 K1; clear hK0 K0; simp at *; done))
   | (
    refine SW.seq_k fun K3 hK3 => ?_
    refine SW.region _ _ _ _ ?_
    refine RL.p T ?_
    refine RL.p T ?_
    refine RL.nil _ _ _ _ ?_
    refine hK3 _ _ _ ?_
    refine SW.ret ?_
    refine retQ.rr ((.var b 55 [.int .i64 ((room : Nat) : Int), .int .i64 ((wait : Nat) : Int), .slice la ln lc, .int .i64 used, .int .i64 age] :: H)) ?_
    clear hK3 K3 hK2 K2 hK1 K1 hK0 K0
    exact ⟨rfl, rfl⟩
    )
 ·skip
  first
   | (exfalso; first | omega | contradiction | (clear hK2 K2; clear hK1 K1; clear hK0 K0; simp at *; done))
   | (
    refine SW.skip ?_
    refine hK1 _ _ _ ?_
    refine SW.seq_k fun K4 hK4 => ?_
    refine SW.region _ _ _ _ ?_
    refine RL.q (QV.vN T rfl rfl rfl rfl rfl (by exact (rfl : _ = [_, _]))) ?_
    refine RL.c fun12 (fun hs => psizeB p hp.cons.cons h) ?_
    rintro _ _ ⟨rfl, e⟩; obtain rfl := e.symm
    refine RL.p T ?_
    refine RL.p T ?_
    refine RL.p T ?_
    refine RL.p T ?_
    refine RL.p T ?_
    refine RL.nil _ _ _ _ ?_
    refine hK4 _ _ _ ?_
    refine SW.seq_k fun K5 hK5 => ?_
    refine SW.seq_k fun K6 hK6 => ?_
    refine SW.region _ _ _ _ ?_
    refine RL.p T ?_
    refine RL.p T ?_
    refine RL.p T ?_
    refine RL.guard_no rfl rfl rfl ?_
    refine RL.guard_no rfl rfl rfl ?_
    refine RL.guard_no rfl rfl rfl ?_
    refine RL.guard_no rfl rfl rfl ?_
    refine RL.guard_no rfl rfl rfl ?_
    refine RL.guard_no rfl rfl rfl ?_
    refine RL.p T ?_
    refine RL.nil _ _ _ _ ?_
    refine hK6 _ _ _ ?_
    refine SW.cond_t rfl ?_
    refine SW.seq_k fun K7 hK7 => ?_
    refine SW.region _ _ _ _ ?_
    refine RL.p T ?_
    refine RL.p T ?_
    refine RL.nil _ _ _ _ ?_
    refine hK7 _ _ _ ?_
    refine SW.ret ?_
    refine retQ.rr ((.var b 55 [.int .i64 ((room : Nat) : Int), .int .i64 ((wait : Nat) : Int), .slice la ln lc, .int .i64 used, .int .i64 age] :: H)) ?_
    clear hK7 K7 hK6 K6 hK5 K5 hK4 K4 hK2 K2 hK1 K1 hK0 K0
    exact ⟨rfl, rfl⟩
    )
theorem add_bad2 {w0 : World} {H : List Chunk} (p : Pd) (hp : PdOk w0 H p) (b room wait : Nat) (age used : Int) (la : Option Addr) (ln lc : Nat) (h : wk (mgP p) ≤ 2048) (h2 : room < wk (mgP p)) : SC Tryd.prog w0 9 #[.pointer (some ⟨b, 0, none⟩), PdA p] (.var b 55 [.int .i64 ((room : Nat) : Int), .int .i64 ((wait : Nat) : Int), .slice la ln lc, .int .i64 used, .int .i64 age] :: H) (fun v H' => v = .tuple #[.slice none 0 0, .int .i64 2] ∧ H' = .var b 55 [.int .i64 ((room : Nat) : Int), .int .i64 ((wait : Nat) : Int), .slice la ln lc, .int .i64 used, .int .i64 age] :: H) := by
 refine SC.enter Tryd.func9 rfl (Nat.le_of_ble_eq_true rfl) ?_
 refine SW.seq_k fun K0 hK0 => ?_
 refine SW.region _ _ _ _ ?_
 refine RL.s ?_
 refine NV.box rfl (by exact (rfl : _ = [_, _])) ?_
 intro b3_0
 refine RL.p T ?_
 refine RL.p T ?_
 refine RL.nil _ _ _ _ ?_
 refine hK0 _ _ _ ?_
 refine SW.seq_k fun K1 hK1 => ?_
 refine SW.seq_k fun K2 hK2 => ?_
 refine SW.region _ _ _ _ ?_
 refine RL.p T ?_
 refine RL.p T ?_
 refine RL.nil _ _ _ _ ?_
 refine hK2 _ _ _ ?_
 refine SW.cs (fun hc0 => ?_) (fun hc0 => ?_)
 ·skip
  first
   | (exfalso; first | omega | contradiction | (clear hK2 K2; clear hK1 K1; clear hK0 K0; simp at *; done))
   | (
    refine SW.seq_k fun K3 hK3 => ?_
    refine SW.region _ _ _ _ ?_
    refine RL.p T ?_
    refine RL.p T ?_
    refine RL.nil _ _ _ _ ?_
    refine hK3 _ _ _ ?_
    refine SW.ret ?_
    refine retQ.rr ((.var b 55 [.int .i64 ((room : Nat) : Int), .int .i64 ((wait : Nat) : Int), .slice la ln lc, .int .i64 used, .int .i64 age] :: H)) ?_
    clear hK3 K3 hK2 K2 hK1 K1 hK0 K0
    exact ⟨rfl, rfl⟩
    )
 ·skip
  first
   | (exfalso; first | omega | contradiction | (clear hK2 K2; clear hK1 K1; clear hK0 K0; simp at *; done))
   | (
    refine SW.skip ?_
    refine hK1 _ _ _ ?_
    refine SW.seq_k fun K4 hK4 => ?_
    refine SW.region _ _ _ _ ?_
    refine RL.q (QV.vN T rfl rfl rfl rfl rfl (by exact (rfl : _ = [_, _]))) ?_
    refine RL.c fun12 (fun hs => psizeO p hp.cons.cons h) ?_
    rintro _ _ ⟨rfl, e⟩; obtain rfl := e.symm
    refine RL.p T ?_
    refine RL.p T ?_
    refine RL.p T ?_
    refine RL.p T ?_
    refine RL.p T ?_
    refine RL.nil _ _ _ _ ?_
    refine hK4 _ _ _ ?_
    refine SW.seq_k fun K5 hK5 => ?_
    refine SW.seq_k fun K6 hK6 => ?_
    refine SW.region _ _ _ _ ?_
    refine RL.p T ?_
    refine RL.p T ?_
    refine RL.p T ?_
    refine RL.p T ?_
    refine RL.p T ?_
    refine RL.p T ?_
    refine RL.p T ?_
    first | refine RL.lv1 T ?_ | refine RL.le T ?_
    refine RL.p T ?_
    refine RL.p T ?_
    refine RL.nil _ _ _ _ ?_
    refine hK6 _ _ _ ?_
    refine SW.cs (fun hc1 => ?_) (fun hc1 => ?_)
    ·skip
     first
      | (exfalso; first | omega | contradiction | (clear hK6 K6; clear hK5 K5; clear hK4 K4; clear hK2 K2; clear hK1 K1; clear hK0 K0; simp at *; done))
      | (
       refine SW.seq_k fun K7 hK7 => ?_
       refine SW.region _ _ _ _ ?_
       refine RL.p T ?_
       refine RL.p T ?_
       refine RL.nil _ _ _ _ ?_
       refine hK7 _ _ _ ?_
       refine SW.ret ?_
       refine retQ.rr ((.var b 55 [.int .i64 ((room : Nat) : Int), .int .i64 ((wait : Nat) : Int), .slice la ln lc, .int .i64 used, .int .i64 age] :: H)) ?_
       clear hK7 K7 hK6 K6 hK5 K5 hK4 K4 hK2 K2 hK1 K1 hK0 K0
       exact ⟨rfl, rfl⟩
       )
    ·skip
     first
      | (exfalso; first | omega | contradiction | (clear hK6 K6; clear hK5 K5; clear hK4 K4; clear hK2 K2; clear hK1 K1; clear hK0 K0; simp at *; done))
      | (
       refine SW.skip ?_
       refine hK5 _ _ _ ?_
       refine SW.seq_k fun K8 hK8 => ?_
       refine SW.seq_k fun K9 hK9 => ?_
       refine SW.drawQ [(24, 0), (25, 1), (26, 2), (27, 3), (28, 4), (29, 5), (30, 6), (31, 7), (32, 8), (33, 9), (34, 10)] [[], [0], [1, 0], [2, 1, 0], [], [3, 2, 1, 0, 4], [], [6], [7, 6], [8, 7, 6], [5, 3, 2, 1, 0, 4, 9, 8, 7, 6]] mixed (by kernel_rfl) (by kernel_rfl) ?_
       refine QL.p T ?_
       refine QL.p T ?_
       refine QL.p T ?_
       first | refine QL.lv1 T ?_ | refine QL.le T ?_
       refine QL.p T ?_
       first | refine QL.ar ?_ | refine QL.p T ?_
       refine QL.p T ?_
       refine QL.p T ?_
       refine QL.p T ?_
       first | refine QL.lv1 T ?_ | refine QL.le T ?_
       refine QL.p T ?_
       refine QL.nil ?_
       refine hK9 _ _ _ ?_
       refine SW.cs (fun hc2 => ?_) (fun hc2 => ?_)
       ·skip
        exfalso; first | omega | contradiction | (clear hK9 K9; clear hK8 K8; clear hK6 K6; clear hK5 K5; clear hK4 K4; clear hK2 K2; clear hK1 K1; clear hK0 K0; simp at *; done)
       ·skip
        exfalso; first | omega | contradiction | (clear hK9 K9; clear hK8 K8; clear hK6 K6; clear hK5 K5; clear hK4 K4; clear hK2 K2; clear hK1 K1; clear hK0 K0; simp at *; done)
       )
    )
end Go.Proofs.YtlgdfoniijmlbaaDoor.M
