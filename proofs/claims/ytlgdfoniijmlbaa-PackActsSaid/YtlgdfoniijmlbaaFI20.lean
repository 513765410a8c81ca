import Derived.Test.YtlgdfoniijmlbaaProg
import Derived.Test.YtlgdfoniijmlbaaFH20
set_option linter.unusedVariables false
set_option linter.unusedSimpArgs false
namespace Go.Proofs.Ytlgdfoniijmlbaa.M
open Go Go.Sep Go.Proofs
set_option maxRecDepth 10000
set_option maxHeartbeats 20000000
theorem great {w0 : World} {H : List Chunk} (ls : List Ac) (sr : Option Addr) (nr cr : Nat) (hB : ∀ H, Rd w0 H sr nr cr 4 (ls.flatMap AcQ)) (hnr : nr = ls.length) (hmr : nr ≤ 4398046511000) (hls : ∀ H, ∀ y ∈ ls, AcOk w0 H y) : SC Try.prog w0 11 #[.slice sr nr cr] H (fun v H' => ∃ t, v = .bool t ∧ (t = false → nr ≤ 200) ∧ H' = H) := by
 refine SC.enter Try.func11 rfl (Nat.le_of_ble_eq_true rfl) ?_
 refine SW.seq_k fun K0 hK0 => ?_
 refine SW.region _ _ _ _ ?_
 refine RL.p T ?_
 refine RL.nil _ _ _ _ ?_
 refine hK0 _ _ _ ?_
 refine SW.seq_k fun K1 hK1 => ?_
 refine SW.region _ _ _ _ ?_
 refine RL.p T ?_
 refine RL.nil _ _ _ _ ?_
 refine hK1 _ _ _ ?_
 refine SW.seq_k fun K2 hK2 => ?_
 refine SW.seq_k fun K3 hK3 => ?_
 refine SW.region _ _ _ _ ?_
 refine RL.p T ?_
 refine RL.p T ?_
 refine RL.p T ?_
 refine RL.nil _ _ _ _ ?_
 refine hK3 _ _ _ ?_
 refine SW.block ?_
 refine SW.loopM (fun frB mm fr ds HH => ∃ (k : Nat) (s : Int), mm = nr - k ∧ (k ≤ nr) ∧ FrIs [3, 5, 8, 9, 10, 11, 12, 13, 14, 15, 16, 17, 18, 19, 20, 21, 22] frB fr [(3, .int .i64 s), (8, .int .i64 k)] ∧ ds = [] ∧ HH = H) (n := nr - 0) ?_ ?_
 ·exact ⟨0, 0, rfl, Nat.zero_le _, (.cons rfl (.consI rfl (by first | omega | rfl) (.nil (by repeat first | with_reducible exact Mx.refl | with_reducible exact Mx.mix | refine Mx.put rfl ?_ | refine Mx.upd rfl ?_ | refine Mx.updl rfl ?_ | refine Mx.fin rfl ?_ | refine Mx.inner rfl ?_ | refine Mx.none ?_ | exact Mx.refl | exact Mx.mix)))), rfl, rfl⟩
 ·rintro mm fr ds HH ⟨k, s, rfl, hk, hFr, rfl, eHH⟩
  obtain rfl := eHH.symm
  obtain ⟨frU, rfl⟩ := hFr.eq
  clear hFr
  have hq := (ac_mem (hls H) k).p.max
  refine SW.seq_k fun K4 hK4 => ?_
  refine SW.region _ _ _ _ ?_
  refine RL.p T ?_
  refine RL.nil _ _ _ _ ?_
  refine hK4 _ _ _ ?_
  refine SW.seq_k fun K5 hK5 => ?_
  refine SW.cs (fun hc0 => ?_) (fun hc0 => ?_)
  ·skip
   first
    | (exfalso; first | omega | contradiction | (clear hK5 K5; clear hK4 K4; clear hK3 K3; clear hK2 K2; clear hK1 K1; clear hK0 K0; simp at *; done))
    | (
     refine SW.skip ?_
     refine hK5 _ _ _ ?_
     refine SW.seq_k fun K6 hK6 => ?_
     refine SW.block ?_
     refine SW.seq_k fun K7 hK7 => ?_
     refine SW.region _ _ _ _ ?_
     refine RL.ix T ?_ (hR := fun hs => (hB _))
     refine RL.leN T ?_ (hR := fun hs => (hB _)) (hvs := (by exact (rfl : _ = [_, _, _, _])))
     refine RL.s ?_
     refine NV.alloc T rfl rfl rfl (by exact (rfl : _ = [_, _, _, _])) ?_
     intro b5_0
     refine RL.s ?_
     refine NV.sN T rfl rfl rfl (by exact (rfl : _ = [_, _, _, _])) (by exact (rfl : _ = [_, _, _, _])) ?_
     refine RL.nil _ _ _ _ ?_
     refine hK7 _ _ _ ?_
     refine SW.region _ _ _ _ ?_
     refine RL.p T ?_
     refine RL.p T ?_
     refine RL.p T ?_
     refine RL.lv1 T ?_
     refine RL.p T ?_
     refine RL.p T ?_
     refine RL.lv1 T ?_
     first | refine RL.cv T ?_ | refine RL.p T ?_ | refine RL.ts T ?_
     first | refine RL.ar ?_ | refine RL.p T ?_
     refine RL.p T ?_
     refine RL.p T ?_
     refine RL.nil _ _ _ _ ?_
     refine hK6 _ _ _ ?_
     refine SW.drop ?_
     refine SW.region _ _ _ _ ?_
     first | refine RL.ar ?_ | refine RL.p T ?_
     refine RL.p T ?_
     refine RL.nil _ _ _ _ ?_
     exact ⟨nr - (k + 1), (by omega), k + 1, _, (by rfl), (by omega), (.cons rfl (.consI rfl (by first | omega | rfl) (.nil (by repeat first | with_reducible exact Mx.refl | with_reducible exact Mx.mix | refine Mx.put rfl ?_ | refine Mx.upd rfl ?_ | refine Mx.updl rfl ?_ | refine Mx.fin rfl ?_ | refine Mx.inner rfl ?_ | refine Mx.none ?_ | exact Mx.refl | exact Mx.mix)))), rfl, rfl⟩
     )
  ·skip
   first
    | (exfalso; first | omega | contradiction | (clear hK5 K5; clear hK4 K4; clear hK3 K3; clear hK2 K2; clear hK1 K1; clear hK0 K0; simp at *; done))
    | (
     refine SW.exit ?_
     refine hK2 _ _ _ ?_
     refine SW.seq_k fun K8 hK8 => ?_
     refine SW.region _ _ _ _ ?_
     refine RL.p T ?_
     refine RL.p T ?_
     refine RL.p T ?_
     refine RL.p T ?_
     refine RL.sp 26 (fun hs0 => ?_) (fun hs0 => ?_)
     ·skip
      first
       | (exfalso; first | omega | contradiction | (clear hK8 K8; clear hK5 K5; clear hK4 K4; clear hK3 K3; clear hK2 K2; clear hK1 K1; clear hK0 K0; simp at *; done))
       | (
        refine RL.guard_no rfl rfl rfl ?_
        refine RL.guard_no rfl rfl rfl ?_
        refine RL.p T ?_
        refine RL.p T ?_
        refine RL.nil _ _ _ _ ?_
        refine hK8 _ _ _ ?_
        refine SW.ret ?_
        refine retQ.rr (H) ?_
        clear hK8 K8 hK5 K5 hK4 K4 hK3 K3 hK2 K2 hK1 K1 hK0 K0
        first
          | exact ⟨_, rfl, (fun h => by cases h), rfl⟩
          | exact ⟨_, rfl, (fun h => by simp at h; omega), rfl⟩
        )
     ·skip
      first
       | (exfalso; first | omega | contradiction | (clear hK8 K8; clear hK5 K5; clear hK4 K4; clear hK3 K3; clear hK2 K2; clear hK1 K1; clear hK0 K0; simp at *; done))
       | (
        refine RL.p T ?_
        refine RL.p T ?_
        refine RL.p T ?_
        refine RL.p T ?_
        refine RL.nil _ _ _ _ ?_
        refine hK8 _ _ _ ?_
        refine SW.ret ?_
        refine retQ.rr (H) ?_
        clear hK8 K8 hK5 K5 hK4 K4 hK3 K3 hK2 K2 hK1 K1 hK0 K0
        first
          | exact ⟨_, rfl, (fun h => by cases h), rfl⟩
          | exact ⟨_, rfl, (fun h => by simp at h; omega), rfl⟩
        )
     )
theorem sameT {w0 : World} {H : List Chunk} (os : List Sl) (oa : Option Addr) (on oc : Nat) (hRa : Rd w0 H oa on oc 1 (List.flatMap SlC os)) (hna : on = os.length) (hka : ∀ q ∈ os, SlOk w0 H q) (qs : List Sl) (qa : Option Addr) (qn qc : Nat) (hRb : Rd w0 H qa qn qc 1 (List.flatMap SlC qs)) (hnb : qn = qs.length) (hkb : ∀ q ∈ qs, SlOk w0 H q) (hmx : on ≤ 1000) (he : outD os = outD qs) : SC Try.prog w0 13 #[.slice oa on oc, .slice qa qn qc] H (fun v H' => v = .bool true ∧ H' = H) := by
  have h := sameO os oa on oc hRa hna hka qs qa qn qc hRb hnb hkb hmx
  rw [decide_eq_true he] at h
  exact h
theorem samePT {w0 : World} {H : List Chunk} (ps : List Pd) (sa : Option Addr) (n c : Nat) (hRa : Rd w0 H sa n c 2 (List.flatMap PdC ps)) (hna : n = ps.length) (hka : ∀ q ∈ ps, PdOk w0 H q) (qs : List Pd) (sb : Option Addr) (m d : Nat) (hRb : Rd w0 H sb m d 2 (List.flatMap PdC qs)) (hnb : m = qs.length) (hkb : ∀ q ∈ qs, PdOk w0 H q) (hmx : n ≤ 4398046511000) (he : mg ps = mg qs) : SC Try.prog w0 18 #[.slice sa n c, .slice sb m d] H (fun v H' => v = .bool true ∧ H' = H) := by
  have h := sameP ps sa n c hRa hna hka qs sb m d hRb hnb hkb hmx
  rw [decide_eq_true he] at h
  exact h
theorem packActs {w0 : World} {H : List Chunk} (room wait : Nat) (hrw : 8 ≤ room ∧ room ≤ 2048 ∧ 1 ≤ wait ∧ wait ≤ 1000) (ls : List Ac) (sr : Option Addr) (nr cr : Nat) (hB : ∀ H, Rd w0 H sr nr cr 4 (ls.flatMap AcQ)) (hnr : nr = ls.length) (hmr : nr ≤ 4398046511000) (hls : ∀ H, ∀ y ∈ ls, AcOk w0 H y) : SC Try.prog w0 4 #[.int .i64 ((room : Nat) : Int), .int .i64 ((wait : Nat) : Int), .slice sr nr cr] H (fun v H' => v = .bool true ∧ H' = H) := by
 refine SC.enter Try.func4 rfl (Nat.le_of_ble_eq_true rfl) ?_
 refine SW.seq_k fun K0 hK0 => ?_
 refine SW.region _ _ _ _ ?_
 refine RL.p T ?_
 refine RL.nil _ _ _ _ ?_
 refine hK0 _ _ _ ?_
 refine SW.seq_k fun K1 hK1 => ?_
 refine SW.seq_k fun K2 hK2 => ?_
 refine SW.region _ _ _ _ ?_
 refine RL.c fun5 (fun hs => alive) ?_
 rintro _ _ ⟨rfl, e⟩; obtain rfl := e.symm
 refine RL.p T ?_
 refine RL.nil _ _ _ _ ?_
 refine hK2 _ _ _ ?_
 refine SW.cs (fun hc0 => ?_) (fun hc0 => ?_)
 ·skip
  first
   | (exfalso; first | omega | contradiction | (clear hK2 K2; clear hK1 K1; clear hK0 K0; simp at *; done))
   | (
    refine SW.seq_k fun K3 hK3 => ?_
    refine SW.region _ _ _ _ ?_
    refine RL.p T ?_
    refine RL.nil _ _ _ _ ?_
    refine hK3 _ _ _ ?_
    refine SW.ret ?_
    refine retQ.rr (H) ?_
    clear hK3 K3 hK2 K2 hK1 K1 hK0 K0
    first
      | exact ⟨rfl, rfl⟩
    )
 ·skip
  first
   | (exfalso; first | omega | contradiction | (clear hK2 K2; clear hK1 K1; clear hK0 K0; simp at *; done))
   | (
    refine SW.skip ?_
    refine hK1 _ _ _ ?_
    refine SW.seq_k fun K4 hK4 => ?_
    refine SW.seq_k fun K5 hK5 => ?_
    refine SW.region _ _ _ _ ?_
    refine RL.p T ?_
    refine RL.c fun11 (fun hs => great ls sr nr cr hB hnr hmr hls) ?_
    rintro _ _ ⟨gt, rfl, hgt, e⟩; obtain rfl := e.symm
    refine RL.nil _ _ _ _ ?_
    refine hK5 _ _ _ ?_
    refine SW.cs (fun hc1 => ?_) (fun hc1 => ?_)
    ·skip
     first
      | (exfalso; first | omega | contradiction | (clear hK5 K5; clear hK4 K4; clear hK2 K2; clear hK1 K1; clear hK0 K0; simp at *; done))
      | (
       refine SW.seq_k fun K6 hK6 => ?_
       refine SW.region _ _ _ _ ?_
       refine RL.p T ?_
       refine RL.nil _ _ _ _ ?_
       refine hK6 _ _ _ ?_
       refine SW.ret ?_
       refine retQ.rr (H) ?_
       clear hK6 K6 hK5 K5 hK4 K4 hK2 K2 hK1 K1 hK0 K0
       first
         | exact ⟨rfl, rfl⟩
       )
    ·skip
     first
      | (exfalso; first | omega | contradiction | (clear hK5 K5; clear hK4 K4; clear hK2 K2; clear hK1 K1; clear hK0 K0; simp at *; done))
      | (
       refine SW.skip ?_
       refine hK4 _ _ _ ?_
       refine SW.seq_k fun K7 hK7 => ?_
       refine SW.region _ _ _ _ ?_
       refine RL.p T ?_
       refine RL.p T ?_
       refine RL.c fun6 (fun hs => new_ok room wait (by omega)) ?_
       rintro _ _ ⟨bp, rfl, e⟩; obtain rfl := e.symm
       refine RL.p T ?_
       refine RL.p T ?_
       refine RL.p T ?_
       refine RL.p T ?_
       refine RL.p T ?_
       refine RL.nil _ _ _ _ ?_
       refine hK7 _ _ _ ?_
       refine SW.seq_k fun K8 hK8 => ?_
       refine SW.region _ _ _ _ ?_
       refine RL.p T ?_
       refine RL.p T ?_
       refine RL.c fun12 (fun hs => rnew_ok room wait (by omega)) ?_
       rintro _ _ ⟨bm, rfl, e⟩; obtain rfl := e.symm
       refine RL.p T ?_
       refine RL.p T ?_
       refine RL.p T ?_
       refine RL.p T ?_
       refine RL.p T ?_
       refine RL.nil _ _ _ _ ?_
       refine hK8 _ _ _ ?_
       refine SW.seq_k fun K9 hK9 => ?_
       refine SW.seq_k fun K10 hK10 => ?_
       refine SW.region _ _ _ _ ?_
       refine RL.p T ?_
       refine RL.p T ?_
       refine RL.nil _ _ _ _ ?_
       refine hK10 _ _ _ ?_
       refine SW.cs (fun hc2 => ?_) (fun hc2 => ?_)
       ·skip
        first
         | (exfalso; first | omega | contradiction | (clear hK10 K10; clear hK9 K9; clear hK8 K8; clear hK7 K7; clear hK5 K5; clear hK4 K4; clear hK2 K2; clear hK1 K1; clear hK0 K0; simp at *; done))
         | (
          refine SW.seq_k fun K11 hK11 => ?_
          refine SW.region _ _ _ _ ?_
          refine RL.p T ?_
          refine RL.p T ?_
          refine RL.p T ?_
          refine RL.join (fr1 := ?_) 2 37 true [38, 39] (fun hs0 hj => ?_) ?_ ?_
          rotate_left
          ·have hs0j := hs0
           try simp only [decide_eq_true_eq, Bool.not_eq_true', decide_eq_false_iff_not, Bool.not_eq_false', Int.not_lt, Int.not_le, Int.toNat_natCast, Bool.and_eq_true, Bool.or_eq_true, Bool.and_eq_false_iff, Bool.or_eq_false_iff] at hs0
           refine RL.p T ?_
           refine RL.p T ?_
           exact hj
          ·repeat first | with_reducible exact Mx.refl | with_reducible exact Mx.mix | refine Mx.put rfl ?_ | refine Mx.upd rfl ?_ | refine Mx.updl rfl ?_ | refine Mx.fin rfl ?_ | refine Mx.inner rfl ?_ | refine Mx.none ?_ | exact Mx.refl | exact Mx.mix
          refine RL.and ?_
          refine RL.p T ?_
          refine RL.nil _ _ _ _ ?_
          refine hK11 _ _ _ ?_
          refine SW.ret ?_
          refine retQ.rr (H) ?_
          clear hK11 K11 hK10 K10 hK9 K9 hK8 K8 hK7 K7 hK5 K5 hK4 K4 hK2 K2 hK1 K1 hK0 K0
          first
            | exact ⟨rfl, rfl⟩
          )
       ·skip
        first
         | (exfalso; first | omega | contradiction | (clear hK10 K10; clear hK9 K9; clear hK8 K8; clear hK7 K7; clear hK5 K5; clear hK4 K4; clear hK2 K2; clear hK1 K1; clear hK0 K0; simp at *; done))
         | (
          refine SW.skip ?_
          refine hK9 _ _ _ ?_
          refine SW.seq_k fun K12 hK12 => ?_
          refine SW.seq_k fun K13 hK13 => ?_
          refine SW.region _ _ _ _ ?_
          refine RL.p T ?_
          refine RL.p T ?_
          refine RL.p T ?_
          refine RL.p T ?_
          refine RL.p T ?_
          refine RL.p T ?_
          refine RL.nil _ _ _ _ ?_
          refine hK13 _ _ _ ?_
          refine SW.cs (fun hc3 => ?_) (fun hc3 => ?_)
          ·skip
           first
            | (exfalso; first | omega | contradiction | (clear hK13 K13; clear hK12 K12; clear hK10 K10; clear hK9 K9; clear hK8 K8; clear hK7 K7; clear hK5 K5; clear hK4 K4; clear hK2 K2; clear hK1 K1; clear hK0 K0; simp at *; done))
            | (
             refine SW.seq_k fun K14 hK14 => ?_
             refine SW.region _ _ _ _ ?_
             refine RL.p T ?_
             refine RL.nil _ _ _ _ ?_
             refine hK14 _ _ _ ?_
             refine SW.ret ?_
             refine retQ.rr (H) ?_
             clear hK14 K14 hK13 K13 hK12 K12 hK10 K10 hK9 K9 hK8 K8 hK7 K7 hK5 K5 hK4 K4 hK2 K2 hK1 K1 hK0 K0
             first
               | exact ⟨rfl, rfl⟩
             )
          ·skip
           first
            | (exfalso; first | omega | contradiction | (clear hK13 K13; clear hK12 K12; clear hK10 K10; clear hK9 K9; clear hK8 K8; clear hK7 K7; clear hK5 K5; clear hK4 K4; clear hK2 K2; clear hK1 K1; clear hK0 K0; simp at *; done))
            | (
             refine SW.skip ?_
             refine hK12 _ _ _ ?_
             refine SW.seq_k fun K15 hK15 => ?_
             refine SW.seq_k fun K16 hK16 => ?_
             refine SW.nilrow 39 2 ?_
             refine SW.wk (.var bp 58 [.int .i64 ((room : Nat) : Int), .int .i64 ((wait : Nat) : Int), .slice none 0 0, .int .i64 0, .int .i64 ((0 : Nat) : Int)] :: .row none 0 0 39 2 (List.flatMap PdC []) :: .var bm 55 [.int .i64 ((room : Nat) : Int), .int .i64 ((wait : Nat) : Int), .int .i64 ((0 : Nat) : Int), .slice none 0 0] :: (([]) ++ H)) ?_
             refine SW.region _ _ _ _ ?_
             refine RL.p T ?_
             refine RL.p T ?_
             refine RL.p T ?_
             refine RL.nil _ _ _ _ ?_
             refine hK16 _ _ _ ?_
             refine SW.block ?_
             refine SW.loopM (fun frB mm fr ds HH => ∃ (k : Nat) (la : Option Addr) (ln lc : Nat) (l : List Pd) (age : Nat) (used : Int) (ma : Option Addr) (mn mc : Nat) (M : List Pd) (G : List Chunk), mm = nr - k ∧ (k ≤ nr ∧ ln = l.length ∧ used = (usedM (mg l) : Nat) ∧ usedM (mg l) + 8 ≤ room ∧ (∀ y ∈ l, PdOk w0 G y) ∧ age < wait ∧ mn = M.length ∧ Rd w0 G ma mn mc 2 (List.flatMap PdC M) ∧ (∀ y ∈ M, PdOk w0 G y) ∧ mg M = mg l) ∧ FrIs [6, 12, 13, 14, 15, 16, 49, 50, 51, 52, 53, 54, 55, 56, 57, 58, 59, 60, 61, 62, 63, 64, 65, 66, 67, 68, 69, 70, 71, 72, 73, 74, 75, 76, 77, 78, 79, 80, 81, 82, 83, 84, 85, 86, 87, 88, 89, 90, 91, 92, 93, 94, 95, 96, 97, 98, 99, 100, 101, 102, 103, 104, 105, 106, 107, 108, 109, 110, 111, 112, 113, 114, 115, 116, 117] frB fr [(49, .int .i64 k)] ∧ ds = [] ∧ HH = (.var bp 58 [.int .i64 ((room : Nat) : Int), .int .i64 ((wait : Nat) : Int), .slice la ln lc, .int .i64 used, .int .i64 ((age : Nat) : Int)] :: .row la ln lc 39 2 (List.flatMap PdC l) :: .var bm 55 [.int .i64 ((room : Nat) : Int), .int .i64 ((wait : Nat) : Int), .int .i64 ((age : Nat) : Int), .slice ma mn mc] :: ((G) ++ H))) (n := nr - 0) ?_ ?_
             ·exact ⟨0, none, 0, 0, [], 0, 0, none, 0, 0, [], [], rfl, ⟨Nat.zero_le _, rfl, rfl, by show 0 + 8 ≤ room; omega, by simp, by omega, rfl, Rd.nilPd, by simp, rfl⟩, (.consI rfl (by first | omega | rfl) (.nil (by repeat first | with_reducible exact Mx.refl | with_reducible exact Mx.mix | refine Mx.put rfl ?_ | refine Mx.upd rfl ?_ | refine Mx.updl rfl ?_ | refine Mx.fin rfl ?_ | refine Mx.inner rfl ?_ | refine Mx.none ?_ | exact Mx.refl | exact Mx.mix))), rfl, rfl⟩
             ·rintro mm fr ds HH ⟨k, la, ln, lc, l, age, used, ma, mn, mc, M, G, rfl, ⟨hk, hln, hus, hur, hlo, hag, hmn, hmr, hMo, hml⟩, hFr, rfl, eHH⟩
              obtain rfl := eHH.symm
              obtain ⟨frU, rfl⟩ := hFr.eq
              clear hFr
              have hx := fun H => ac_mem (hls H) k
              have hxn0 := (hx []).n0
              have hxn1 := (hx []).n1
              refine SW.seq_k fun K17 hK17 => ?_
              refine SW.region _ _ _ _ ?_
              refine RL.p T ?_
              refine RL.nil _ _ _ _ ?_
              refine hK17 _ _ _ ?_
              refine SW.seq_k fun K18 hK18 => ?_
              refine SW.cs (fun hc4 => ?_) (fun hc4 => ?_)
              ·skip
               first
                | (exfalso; first | omega | contradiction | (clear hK18 K18; clear hK17 K17; clear hK16 K16; clear hK15 K15; clear hK13 K13; clear hK12 K12; clear hK10 K10; clear hK9 K9; clear hK8 K8; clear hK7 K7; clear hK5 K5; clear hK4 K4; clear hK2 K2; clear hK1 K1; clear hK0 K0; simp at *; done))
                | (
                 refine SW.skip ?_
                 refine hK18 _ _ _ ?_
                 refine SW.seq_k fun K19 hK19 => ?_
                 refine SW.block ?_
                 refine SW.seq_k fun K20 hK20 => ?_
                 refine SW.region _ _ _ _ ?_
                 refine RL.ix T ?_ (hR := fun hs => (hB _))
                 refine RL.leN T ?_ (hR := fun hs => (hB _)) (hvs := (by exact (rfl : _ = [_, _, _, _])))
                 refine RL.s ?_
                 refine NV.alloc T rfl rfl rfl (by exact (rfl : _ = [_, _, _, _])) ?_
                 intro b12_0
                 refine RL.s ?_
                 refine NV.sN T rfl rfl rfl (by exact (rfl : _ = [_, _, _, _])) (by exact (rfl : _ = [_, _, _, _])) ?_
                 refine RL.nil _ _ _ _ ?_
                 refine hK20 _ _ _ ?_
                 refine SW.seq_mid [6, 13, 14, 15, 16, 53, 54, 55, 56, 57, 58, 59, 60, 61, 62, 63, 64, 65, 66, 67, 68, 69, 70, 71, 72, 73, 74, 75, 76, 77, 78, 79, 80, 81, 82, 83, 84, 85, 86, 87, 88, 89, 90, 91, 92, 93, 94, 95, 96, 97, 98] (fun HJ => ∃ (la : Option Addr) (ln lc : Nat) (l : List Pd) (age : Nat) (used : Int) (ma : Option Addr) (mn mc : Nat) (M : List Pd) (G : List Chunk), (ln = l.length ∧ used = (usedM (mg l) : Nat) ∧ usedM (mg l) + 8 ≤ room ∧ (∀ y ∈ l, PdOk w0 G y) ∧ age < wait ∧ mn = M.length ∧ Rd w0 G ma mn mc 2 (List.flatMap PdC M) ∧ (∀ y ∈ M, PdOk w0 G y) ∧ mg M = mg l) ∧ HJ = (.var bp 58 [.int .i64 ((room : Nat) : Int), .int .i64 ((wait : Nat) : Int), .slice la ln lc, .int .i64 used, .int .i64 ((age : Nat) : Int)] :: .row la ln lc 39 2 (List.flatMap PdC l) :: .var bm 55 [.int .i64 ((room : Nat) : Int), .int .i64 ((wait : Nat) : Int), .int .i64 ((age : Nat) : Int), .slice ma mn mc] :: ((G) ++ H))) (fun K21 hK21 => ?_) ?_
                 ·skip
                  refine SW.seq_k fun K22 hK22 => ?_
                  refine SW.region _ _ _ _ ?_
                  refine RL.p T ?_
                  refine RL.lv1 T ?_
                  refine RL.nil _ _ _ _ ?_
                  refine hK22 _ _ _ ?_
                  refine SW.block ?_
                  refine SW.seq_k fun K23 hK23 => ?_
                  refine SW.region _ _ _ _ ?_
                  refine RL.p T ?_
                  refine RL.p T ?_
                  refine RL.nil _ _ _ _ ?_
                  refine hK23 _ _ _ ?_
                  refine SW.cs (fun hc5 => ?_) (fun hc5 => ?_)
                  ·skip
                   first
                    | (exfalso; first | omega | contradiction | (clear hK23 K23; clear hK22 K22; clear hK21 K21; clear hK20 K20; clear hK19 K19; clear hK18 K18; clear hK17 K17; clear hK16 K16; clear hK15 K15; clear hK13 K13; clear hK12 K12; clear hK10 K10; clear hK9 K9; clear hK8 K8; clear hK7 K7; clear hK5 K5; clear hK4 K4; clear hK2 K2; clear hK1 K1; clear hK0 K0; simp at *; done))
                    | (
                     refine SW.seq_k fun K24 hK24 => ?_
                     refine SW.region _ _ _ _ ?_
                     refine RL.p T ?_
                     refine RL.lv1 T ?_
                     refine RL.p T ?_
                     refine RL.wk (.var bp 58 [.int .i64 ((room : Nat) : Int), .int .i64 ((wait : Nat) : Int), .slice la ln lc, .int .i64 used, .int .i64 ((age : Nat) : Int)] :: .row la ln lc 39 2 (List.flatMap PdC l) :: .var bm 55 [.int .i64 ((room : Nat) : Int), .int .i64 ((wait : Nat) : Int), .int .i64 ((age : Nat) : Int), .slice ma mn mc] :: ((G) ++ H)) ?_
                     refine RL.nil _ _ _ _ ?_
                     refine hK24 _ _ _ ?_
                     refine SW.block ?_
                     refine SW.loopM (fun frB mm fr ds HH => ∃ (j : Nat) (la : Option Addr) (ln lc : Nat) (l : List Pd) (age : Nat) (used : Int) (ma : Option Addr) (mn mc : Nat) (M : List Pd) (G : List Chunk), mm = (ls.getD k default).n.toNat - j ∧ ((j : Int) ≤ (ls.getD k default).n ∧ ln = l.length ∧ used = (usedM (mg l) : Nat) ∧ usedM (mg l) + 8 ≤ room ∧ (∀ y ∈ l, PdOk w0 G y) ∧ age < wait ∧ mn = M.length ∧ Rd w0 G ma mn mc 2 (List.flatMap PdC M) ∧ (∀ y ∈ M, PdOk w0 G y) ∧ mg M = mg l) ∧ FrIs [6, 82, 83, 84, 85, 86, 87, 88, 89, 90] frB fr [(82, .int .u8 (j : Int))] ∧ ds = [] ∧ HH = (.var bp 58 [.int .i64 ((room : Nat) : Int), .int .i64 ((wait : Nat) : Int), .slice la ln lc, .int .i64 used, .int .i64 ((age : Nat) : Int)] :: .row la ln lc 39 2 (List.flatMap PdC l) :: .var bm 55 [.int .i64 ((room : Nat) : Int), .int .i64 ((wait : Nat) : Int), .int .i64 ((age : Nat) : Int), .slice ma mn mc] :: ((G) ++ H))) (n := (ls.getD k default).n.toNat - 0) ?_ ?_
                     ·exact ⟨0, la, ln, lc, l, age, used, ma, mn, mc, M, G, rfl, ⟨by omega, hln, hus, hur, hlo, hag, hmn, hmr, hMo, hml⟩, (.consI rfl (by first | omega | rfl) (.nil (by repeat first | with_reducible exact Mx.refl | with_reducible exact Mx.mix | refine Mx.put rfl ?_ | refine Mx.upd rfl ?_ | refine Mx.updl rfl ?_ | refine Mx.fin rfl ?_ | refine Mx.inner rfl ?_ | refine Mx.none ?_ | exact Mx.refl | exact Mx.mix))), rfl, rfl⟩
                     ·rintro mm fr ds HH ⟨j, la, ln, lc, l, age, used, ma, mn, mc, M, G, rfl, ⟨hj, hln, hus, hur, hlo, hag, hmn, hmr, hMo, hml⟩, hFr, rfl, eHH⟩
                      obtain rfl := eHH.symm
                      obtain ⟨frU, rfl⟩ := hFr.eq
                      clear hFr
                      refine SW.seq_k fun K25 hK25 => ?_
                      refine SW.region _ _ _ _ ?_
                      refine RL.p T ?_
                      refine RL.nil _ _ _ _ ?_
                      refine hK25 _ _ _ ?_
                      refine SW.seq_k fun K26 hK26 => ?_
                      refine SW.cs (fun hc6 => ?_) (fun hc6 => ?_)
                      ·skip
                       first
                        | (exfalso; first | omega | contradiction | (clear hK26 K26; clear hK25 K25; clear hK24 K24; clear hK23 K23; clear hK22 K22; clear hK21 K21; clear hK20 K20; clear hK19 K19; clear hK18 K18; clear hK17 K17; clear hK16 K16; clear hK15 K15; clear hK13 K13; clear hK12 K12; clear hK10 K10; clear hK9 K9; clear hK8 K8; clear hK7 K7; clear hK5 K5; clear hK4 K4; clear hK2 K2; clear hK1 K1; clear hK0 K0; simp at *; done))
                        | (
                         refine SW.skip ?_
                         refine hK26 _ _ _ ?_
                         refine SW.seq_k fun K27 hK27 => ?_
                         refine SW.block ?_
                         refine SW.seq_k fun K28 hK28 => ?_
                         refine SW.region _ _ _ _ ?_
                         refine RL.p T ?_
                         refine RL.c fun7 (fun hs => SC.wk (tickV bp room wait age used la ln lc l hln hus (by omega) (fun y hy => (hlo y hy).sub SubL.by) (by omega) (by omega) hag (by omega) (H := .var bm 55 [.int .i64 ((room : Nat) : Int), .int .i64 ((wait : Nat) : Int), .int .i64 ((age : Nat) : Int), .slice ma mn mc] :: (G ++ H)))) ?_
                         rintro _ _ ⟨D1, oa1, on1, oc1, os1, la1, ln1, lc1, l1, age1, us1, rfl, e, hon1, hln1, hus1, hos1, hl1, hag1, hoq1, hly1⟩; obtain rfl := e.symm
                         refine RL.p T ?_
                         refine RL.c fun14 (fun hs => SC.wk (rtickV bm room wait age ma mn mc M (SubL.rd (T := G) SubL.by hmr) hmn (by rw [hml]; omega) (fun y hy => (hMo y hy).sub SubL.by) hag (by omega) (H := .row oa1 on1 oc1 23 1 (List.flatMap SlC os1) :: .var bp 58 [.int .i64 ((room : Nat) : Int), .int .i64 ((wait : Nat) : Int), .slice la1 ln1 lc1, .int .i64 us1, .int .i64 ((age1 : Nat) : Int)] :: .row la1 ln1 lc1 39 2 (List.flatMap PdC l1) :: (D1 ++ (G ++ H))))) ?_
                         rintro _ _ ⟨D2, oa2, on2, oc2, os2, ma2, mn2, mc2, M2, age2, rfl, e, hon2, hmn2, hos2, hM2, hag2, hoq2, hly2, hRf2⟩; obtain rfl := e.symm
                         obtain rfl : age1 = age2 := by rw [hag1, hag2, hml]
                         have hu1' : usedM (mg l1) + 8 ≤ room := by rw [hl1]; exact tickL_used (by omega) hur
                         have hag1' : age1 < wait := by rw [hag1]; exact tickA_lt hag
                         have hml1 : mg M2 = mg l1 := by rw [hM2, hl1, hml]
                         have hoo : outD os1 = outD os2 := by rw [hos1, hos2, hml]
                         refine RL.c fun13 (fun hs => sameT os1 oa1 on1 oc1 (Rd.rowh hs (by repeat first | exact At.head _ _ | apply At.tail | apply At.app)) hon1 (fun q hq => (hoq1 q hq).sub SubL.by) os2 oa2 on2 oc2 (Rd.rowh hs (by repeat first | exact At.head _ _ | apply At.tail | apply At.app)) hon2 (fun q hq => (hoq2 q hq).sub SubL.by) (by have := congrArg List.length hos1; rw [outD_len] at this; have h2 := tickO_len wait (mg l) age; omega) hoo) ?_
                         rintro _ _ ⟨rfl, e⟩; obtain rfl := e.symm
                         refine RL.p T ?_
                         refine RL.nil _ _ _ _ ?_
                         refine hK28 _ _ _ ?_
                         refine SW.cs (fun hc7 => ?_) (fun hc7 => ?_)
                         ·skip
                          first
                           | (exfalso; first | omega | contradiction | (clear hK28 K28; clear hK27 K27; clear hK26 K26; clear hK25 K25; clear hK24 K24; clear hK23 K23; clear hK22 K22; clear hK21 K21; clear hK20 K20; clear hK19 K19; clear hK18 K18; clear hK17 K17; clear hK16 K16; clear hK15 K15; clear hK13 K13; clear hK12 K12; clear hK10 K10; clear hK9 K9; clear hK8 K8; clear hK7 K7; clear hK5 K5; clear hK4 K4; clear hK2 K2; clear hK1 K1; clear hK0 K0; simp at *; done))
                           | (
                            refine SW.seq_k fun K29 hK29 => ?_
                            refine SW.region _ _ _ _ ?_
                            refine RL.p T ?_
                            refine RL.nil _ _ _ _ ?_
                            refine hK29 _ _ _ ?_
                            refine SW.ret ?_
                            refine retQ.rr (H) ?_
                            clear hK29 K29 hK28 K28 hK27 K27 hK26 K26 hK25 K25 hK24 K24 hK23 K23 hK22 K22 hK21 K21 hK20 K20 hK19 K19 hK18 K18 hK17 K17 hK16 K16 hK15 K15 hK13 K13 hK12 K12 hK10 K10 hK9 K9 hK8 K8 hK7 K7 hK5 K5 hK4 K4 hK2 K2 hK1 K1 hK0 K0
                            first
                              | exact ⟨rfl, rfl⟩
                            )
                         ·skip
                          first
                           | (exfalso; first | omega | contradiction | (clear hK28 K28; clear hK27 K27; clear hK26 K26; clear hK25 K25; clear hK24 K24; clear hK23 K23; clear hK22 K22; clear hK21 K21; clear hK20 K20; clear hK19 K19; clear hK18 K18; clear hK17 K17; clear hK16 K16; clear hK15 K15; clear hK13 K13; clear hK12 K12; clear hK10 K10; clear hK9 K9; clear hK8 K8; clear hK7 K7; clear hK5 K5; clear hK4 K4; clear hK2 K2; clear hK1 K1; clear hK0 K0; simp at *; done))
                           | (
                            refine SW.skip ?_
                            refine hK27 _ _ _ ?_
                            refine SW.wk (.var bp 58 [.int .i64 ((room : Nat) : Int), .int .i64 ((wait : Nat) : Int), .slice la1 ln1 lc1, .int .i64 us1, .int .i64 ((age1 : Nat) : Int)] :: .row la1 ln1 lc1 39 2 (List.flatMap PdC l1) :: .var bm 55 [.int .i64 ((room : Nat) : Int), .int .i64 ((wait : Nat) : Int), .int .i64 ((age1 : Nat) : Int), .slice ma2 mn2 mc2] :: ((D2 ++ (D1 ++ G)) ++ H)) ?_
                            refine SW.region _ _ _ _ ?_
                            first | refine RL.arK ?_ | refine RL.p T ?_
                            refine RL.p T ?_
                            refine RL.nil _ _ _ _ ?_
                            exact ⟨(ls.getD k default).n.toNat - (j + 1), (by omega), j + 1, la1, ln1, lc1, l1, age1, us1, ma2, mn2, mc2, M2, D2 ++ (D1 ++ G), (by rfl), ⟨by omega, hln1, hus1, hu1', (fun y hy => (hly1 y hy).elim (fun m => (hlo y m).sub SubL.by) (fun m => m.sub SubL.by)), hag1', hmn2, hRf2 (D1 ++ G) hmr.app, (fun y hy => (hly2 y hy).elim (fun m => (hMo y m).sub SubL.by) (fun m => m.sub SubL.by)), hml1⟩, (.consI rfl (by first | omega | rfl) (.nil (by repeat first | with_reducible exact Mx.refl | with_reducible exact Mx.mix | refine Mx.put rfl ?_ | refine Mx.upd rfl ?_ | refine Mx.updl rfl ?_ | refine Mx.fin rfl ?_ | refine Mx.inner rfl ?_ | refine Mx.none ?_ | exact Mx.refl | exact Mx.mix))), rfl, rfl⟩
                            )
                         )
                      ·skip
                       first
                        | (exfalso; first | omega | contradiction | (clear hK26 K26; clear hK25 K25; clear hK24 K24; clear hK23 K23; clear hK22 K22; clear hK21 K21; clear hK20 K20; clear hK19 K19; clear hK18 K18; clear hK17 K17; clear hK16 K16; clear hK15 K15; clear hK13 K13; clear hK12 K12; clear hK10 K10; clear hK9 K9; clear hK8 K8; clear hK7 K7; clear hK5 K5; clear hK4 K4; clear hK2 K2; clear hK1 K1; clear hK0 K0; simp at *; done))
                        | (
                         refine SW.exit ?_
                         first
                           | exact hK21 _ _ (by repeat first | with_reducible exact Mx.refl | with_reducible exact Mx.mix | refine Mx.put rfl ?_ | refine Mx.upd rfl ?_ | refine Mx.updl rfl ?_ | refine Mx.fin rfl ?_ | refine Mx.inner rfl ?_ | refine Mx.none ?_ | exact Mx.refl | exact Mx.mix) ⟨(.var bp 58 [.int .i64 ((room : Nat) : Int), .int .i64 ((wait : Nat) : Int), .slice la1 ln1 lc1, .int .i64 us1, .int .i64 ((age1 : Nat) : Int)] :: .row la1 ln1 lc1 39 2 (List.flatMap PdC l1) :: .var bm 55 [.int .i64 ((room : Nat) : Int), .int .i64 ((wait : Nat) : Int), .int .i64 ((age1 : Nat) : Int), .slice ma2 mn2 mc2] :: ((D2 ++ (D1 ++ G)) ++ H)), SubL.by, la1, ln1, lc1, l1, age1, us1, ma2, mn2, mc2, M2, D2 ++ (D1 ++ G), ⟨hln1, hus1, hu1', (fun y hy => (hly1 y hy).elim (fun m => (hlo y m).sub SubL.by) (fun m => m.sub SubL.by)), hag1', hmn2, hRf2 (D1 ++ G) hmr.app, (fun y hy => (hly2 y hy).elim (fun m => (hMo y m).sub SubL.by) (fun m => m.sub SubL.by)), hml1⟩, rfl⟩
                           | exact hK21 _ _ (by repeat first | with_reducible exact Mx.refl | with_reducible exact Mx.mix | refine Mx.put rfl ?_ | refine Mx.upd rfl ?_ | refine Mx.updl rfl ?_ | refine Mx.fin rfl ?_ | refine Mx.inner rfl ?_ | refine Mx.none ?_ | exact Mx.refl | exact Mx.mix) ⟨(.var bp 58 [.int .i64 ((room : Nat) : Int), .int .i64 ((wait : Nat) : Int), .slice la ln lc, .int .i64 used, .int .i64 ((age : Nat) : Int)] :: .row la ln lc 39 2 (List.flatMap PdC l) :: .var bm 55 [.int .i64 ((room : Nat) : Int), .int .i64 ((wait : Nat) : Int), .int .i64 ((age : Nat) : Int), .slice ma mn mc] :: ((G) ++ H)), SubL.by, la, ln, lc, l, age, used, ma, mn, mc, M, G, ⟨hln, hus, hur, hlo, hag, hmn, hmr, hMo, hml⟩, rfl⟩
                         )
                     )
                  ·skip
                   first
                    | (exfalso; first | omega | contradiction | (clear hK23 K23; clear hK22 K22; clear hK21 K21; clear hK20 K20; clear hK19 K19; clear hK18 K18; clear hK17 K17; clear hK16 K16; clear hK15 K15; clear hK13 K13; clear hK12 K12; clear hK10 K10; clear hK9 K9; clear hK8 K8; clear hK7 K7; clear hK5 K5; clear hK4 K4; clear hK2 K2; clear hK1 K1; clear hK0 K0; simp at *; done))
                    | (
                     refine SW.seq_k fun K30 hK30 => ?_
                     refine SW.region _ _ _ _ ?_
                     refine RL.p T ?_
                     refine RL.p T ?_
                     refine RL.nil _ _ _ _ ?_
                     refine hK30 _ _ _ ?_
                     refine SW.cs (fun hc8 => ?_) (fun hc8 => ?_)
                     ·skip
                      first
                       | (exfalso; first | omega | contradiction | (clear hK30 K30; clear hK23 K23; clear hK22 K22; clear hK21 K21; clear hK20 K20; clear hK19 K19; clear hK18 K18; clear hK17 K17; clear hK16 K16; clear hK15 K15; clear hK13 K13; clear hK12 K12; clear hK10 K10; clear hK9 K9; clear hK8 K8; clear hK7 K7; clear hK5 K5; clear hK4 K4; clear hK2 K2; clear hK1 K1; clear hK0 K0; simp at *; done))
                       | (
                        refine SW.seq_k fun K31 hK31 => ?_
                        refine SW.region _ _ _ _ ?_
                        refine RL.p T ?_
                        refine RL.c fun15 (fun hs => SC.wk (flushV bp room wait age used la ln lc l hln hus (by omega) (fun y hy => (hlo y hy).sub SubL.by) (H := .var bm 55 [.int .i64 ((room : Nat) : Int), .int .i64 ((wait : Nat) : Int), .int .i64 ((age : Nat) : Int), .slice ma mn mc] :: .var b12_0 49 (AcQ (ls.getD k default)) :: (G ++ H)))) ?_
                        rintro _ _ ⟨D1, oa1, on1, oc1, os1, la1, ln1, lc1, l1, age1, us1, rfl, e, hon1, hln1, hus1, hos1, hl1, hag1, hoq1, hly1⟩; obtain rfl := e.symm
                        refine RL.p T ?_
                        refine RL.c fun16 (fun hs => SC.wk (rflushV bm room wait age ma mn mc M (SubL.rd (T := G) SubL.by hmr) hmn (by rw [hml]; omega) (fun y hy => (hMo y hy).sub SubL.by) (H := .row oa1 on1 oc1 23 1 (List.flatMap SlC os1) :: .var bp 58 [.int .i64 ((room : Nat) : Int), .int .i64 ((wait : Nat) : Int), .slice la1 ln1 lc1, .int .i64 us1, .int .i64 ((age1 : Nat) : Int)] :: .row la1 ln1 lc1 39 2 (List.flatMap PdC l1) :: (D1 ++ (G ++ H))))) ?_
                        rintro _ _ ⟨D2, oa2, on2, oc2, os2, ma2, mn2, mc2, M2, age2, rfl, e, hon2, hmn2, hos2, hM2, hag2, hoq2, hly2, hRf2⟩; obtain rfl := e.symm
                        obtain rfl : age1 = age2 := by rw [hag1, hag2, age_same hml]
                        have hu1' : usedM (mg l1) + 8 ≤ room := by rw [hl1]; show 0 + 8 ≤ room; omega
                        have hag1' : age1 < wait := by rw [hag1]; split <;> omega
                        have hml1 : mg M2 = mg l1 := hM2.trans hl1.symm
                        have hoo : outD os1 = outD os2 := by rw [hos1, hos2, hml]
                        refine RL.c fun13 (fun hs => sameT os1 oa1 on1 oc1 (Rd.rowh hs (by repeat first | exact At.head _ _ | apply At.tail | apply At.app)) hon1 (fun q hq => (hoq1 q hq).sub SubL.by) os2 oa2 on2 oc2 (Rd.rowh hs (by repeat first | exact At.head _ _ | apply At.tail | apply At.app)) hon2 (fun q hq => (hoq2 q hq).sub SubL.by) (by have := congrArg List.length hos1; rw [outD_len] at this; have h2 := flushO_len (mg l); omega) hoo) ?_
                        rintro _ _ ⟨rfl, e⟩; obtain rfl := e.symm
                        refine RL.p T ?_
                        refine RL.nil _ _ _ _ ?_
                        refine hK31 _ _ _ ?_
                        refine SW.cs (fun hc9 => ?_) (fun hc9 => ?_)
                        ·skip
                         first
                          | (exfalso; first | omega | contradiction | (clear hK31 K31; clear hK30 K30; clear hK23 K23; clear hK22 K22; clear hK21 K21; clear hK20 K20; clear hK19 K19; clear hK18 K18; clear hK17 K17; clear hK16 K16; clear hK15 K15; clear hK13 K13; clear hK12 K12; clear hK10 K10; clear hK9 K9; clear hK8 K8; clear hK7 K7; clear hK5 K5; clear hK4 K4; clear hK2 K2; clear hK1 K1; clear hK0 K0; simp at *; done))
                          | (
                           refine SW.seq_k fun K32 hK32 => ?_
                           refine SW.region _ _ _ _ ?_
                           refine RL.p T ?_
                           refine RL.nil _ _ _ _ ?_
                           refine hK32 _ _ _ ?_
                           refine SW.ret ?_
                           refine retQ.rr (H) ?_
                           clear hK32 K32 hK31 K31 hK30 K30 hK23 K23 hK22 K22 hK21 K21 hK20 K20 hK19 K19 hK18 K18 hK17 K17 hK16 K16 hK15 K15 hK13 K13 hK12 K12 hK10 K10 hK9 K9 hK8 K8 hK7 K7 hK5 K5 hK4 K4 hK2 K2 hK1 K1 hK0 K0
                           first
                             | exact ⟨rfl, rfl⟩
                           )
                        ·skip
                         first
                          | (exfalso; first | omega | contradiction | (clear hK31 K31; clear hK30 K30; clear hK23 K23; clear hK22 K22; clear hK21 K21; clear hK20 K20; clear hK19 K19; clear hK18 K18; clear hK17 K17; clear hK16 K16; clear hK15 K15; clear hK13 K13; clear hK12 K12; clear hK10 K10; clear hK9 K9; clear hK8 K8; clear hK7 K7; clear hK5 K5; clear hK4 K4; clear hK2 K2; clear hK1 K1; clear hK0 K0; simp at *; done))
                          | (
                           refine SW.skip ?_
                           first
                             | exact hK21 _ _ (by repeat first | with_reducible exact Mx.refl | with_reducible exact Mx.mix | refine Mx.put rfl ?_ | refine Mx.upd rfl ?_ | refine Mx.updl rfl ?_ | refine Mx.fin rfl ?_ | refine Mx.inner rfl ?_ | refine Mx.none ?_ | exact Mx.refl | exact Mx.mix) ⟨(.var bp 58 [.int .i64 ((room : Nat) : Int), .int .i64 ((wait : Nat) : Int), .slice la1 ln1 lc1, .int .i64 us1, .int .i64 ((age1 : Nat) : Int)] :: .row la1 ln1 lc1 39 2 (List.flatMap PdC l1) :: .var bm 55 [.int .i64 ((room : Nat) : Int), .int .i64 ((wait : Nat) : Int), .int .i64 ((age1 : Nat) : Int), .slice ma2 mn2 mc2] :: ((D2 ++ (D1 ++ G)) ++ H)), SubL.by, la1, ln1, lc1, l1, age1, us1, ma2, mn2, mc2, M2, D2 ++ (D1 ++ G), ⟨hln1, hus1, hu1', (fun y hy => (hly1 y hy).elim (fun m => (hlo y m).sub SubL.by) (fun m => m.sub SubL.by)), hag1', hmn2, hRf2 (D1 ++ G) hmr.app, (fun y hy => (hly2 y hy).elim (fun m => (hMo y m).sub SubL.by) (fun m => m.sub SubL.by)), hml1⟩, rfl⟩
                             | exact hK21 _ _ (by repeat first | with_reducible exact Mx.refl | with_reducible exact Mx.mix | refine Mx.put rfl ?_ | refine Mx.upd rfl ?_ | refine Mx.updl rfl ?_ | refine Mx.fin rfl ?_ | refine Mx.inner rfl ?_ | refine Mx.none ?_ | exact Mx.refl | exact Mx.mix) ⟨(.var bp 58 [.int .i64 ((room : Nat) : Int), .int .i64 ((wait : Nat) : Int), .slice la ln lc, .int .i64 used, .int .i64 ((age : Nat) : Int)] :: .row la ln lc 39 2 (List.flatMap PdC l) :: .var bm 55 [.int .i64 ((room : Nat) : Int), .int .i64 ((wait : Nat) : Int), .int .i64 ((age : Nat) : Int), .slice ma mn mc] :: ((G) ++ H)), SubL.by, la, ln, lc, l, age, used, ma, mn, mc, M, G, ⟨hln, hus, hur, hlo, hag, hmn, hmr, hMo, hml⟩, rfl⟩
                           )
                        )
                     ·skip
                      first
                       | (exfalso; first | omega | contradiction | (clear hK30 K30; clear hK23 K23; clear hK22 K22; clear hK21 K21; clear hK20 K20; clear hK19 K19; clear hK18 K18; clear hK17 K17; clear hK16 K16; clear hK15 K15; clear hK13 K13; clear hK12 K12; clear hK10 K10; clear hK9 K9; clear hK8 K8; clear hK7 K7; clear hK5 K5; clear hK4 K4; clear hK2 K2; clear hK1 K1; clear hK0 K0; simp at *; done))
                       | (
                        refine SW.seq_k fun K33 hK33 => ?_
                        refine SW.region _ _ _ _ ?_
                        refine RL.p T ?_
                        refine RL.p T ?_
                        refine RL.q (QV.vN T rfl rfl rfl rfl rfl (by exact (rfl : _ = [_, _]))) ?_
                        refine RL.c fun9 (fun hs => SC.wk (addU (ls.getD k default).p (hx _).p bp room wait age used la ln lc l hln hus (by omega) (fun y hy => (hlo y hy).sub SubL.by) (by omega) hur (H := .var bm 55 [.int .i64 ((room : Nat) : Int), .int .i64 ((wait : Nat) : Int), .int .i64 ((age : Nat) : Int), .slice ma mn mc] :: .var b12_0 49 (AcQ (ls.getD k default)) :: (G ++ H)))) ?_
                        rintro _ _ ⟨D1, oa1, on1, oc1, os1, la1, ln1, lc1, l1, age1, us1, rfl, e, hon1, hln1, hus1, hos1, hl1, hag1, hoq1, hly1⟩; obtain rfl := e.symm
                        refine RL.p T ?_
                        refine RL.p T ?_
                        refine RL.p T ?_
                        refine RL.p T ?_
                        refine RL.p T ?_
                        refine RL.nil _ _ _ _ ?_
                        refine hK33 _ _ _ ?_
                        refine SW.seq_k fun K34 hK34 => ?_
                        refine SW.region _ _ _ _ ?_
                        refine RL.p T ?_
                        refine RL.p T ?_
                        refine RL.q (QV.vN T rfl rfl rfl rfl rfl (by exact (rfl : _ = [_, _]))) ?_
                        refine RL.c fun17 (fun hs => SC.wk (raddU (ls.getD k default).p (hx _).p bm room wait age ma mn mc M (SubL.rd (T := G) SubL.by hmr) hmn (by rw [hml]; omega) (fun y hy => (hMo y hy).sub SubL.by) (by omega) (by rw [hml]; omega) (H := .row oa1 on1 oc1 23 1 (List.flatMap SlC os1) :: .var bp 58 [.int .i64 ((room : Nat) : Int), .int .i64 ((wait : Nat) : Int), .slice la1 ln1 lc1, .int .i64 us1, .int .i64 ((age1 : Nat) : Int)] :: .row la1 ln1 lc1 39 2 (List.flatMap PdC l1) :: (D1 ++ .var b12_0 49 (AcQ (ls.getD k default)) :: (G ++ H))))) ?_
                        rintro _ _ ⟨D2, oa2, on2, oc2, os2, ma2, mn2, mc2, M2, age2, rfl, e, hon2, hmn2, hos2, hM2, hag2, hoq2, hly2, hRf2⟩; obtain rfl := e.symm
                        obtain rfl : age1 = age2 := by rw [hag1, hag2, hos1, hos2, hml]
                        have hu1' : usedM (mg l1) + 8 ≤ room := by rw [hl1]; exact addLu_used (by omega) hur
                        have hag1' : age1 < wait := by rw [hag1]; exact ageO_lt hag
                        have hml1 : mg M2 = mg l1 := by rw [hM2, hl1, hml]
                        have hoo : outD os1 = outD os2 := by rw [hos1, hos2, hml]
                        refine RL.p T ?_
                        refine RL.p T ?_
                        refine RL.p T ?_
                        refine RL.p T ?_
                        refine RL.p T ?_
                        refine RL.nil _ _ _ _ ?_
                        refine hK34 _ _ _ ?_
                        refine SW.seq_k fun K35 hK35 => ?_
                        refine SW.region _ _ _ _ ?_
                        refine RL.p T ?_
                        refine RL.p T ?_
                        refine RL.c fun13 (fun hs => sameT os1 oa1 on1 oc1 (Rd.rowh hs (by repeat first | exact At.head _ _ | apply At.tail | apply At.app)) hon1 (fun q hq => (hoq1 q hq).sub SubL.by) os2 oa2 on2 oc2 (Rd.rowh hs (by repeat first | exact At.head _ _ | apply At.tail | apply At.app)) hon2 (fun q hq => (hoq2 q hq).sub SubL.by) (by have := congrArg List.length hos1; rw [outD_len] at this; have h2 := addOu_len room (mg l) (mgP (ls.getD k default).p); omega) hoo) ?_
                        rintro _ _ ⟨rfl, e⟩; obtain rfl := e.symm
                        refine RL.p T ?_
                        refine RL.p T ?_
                        refine RL.join (fr1 := ?_) 3 73 false [74, 75, 76] (fun hs1 hj => ?_) ?_ ?_
                        rotate_left
                        ·have hs1j := hs1
                         try simp only [decide_eq_true_eq, Bool.not_eq_true', decide_eq_false_iff_not, Bool.not_eq_false', Int.not_lt, Int.not_le, Int.toNat_natCast, Bool.and_eq_true, Bool.or_eq_true, Bool.and_eq_false_iff, Bool.or_eq_false_iff] at hs1
                         refine RL.p T ?_
                         refine RL.p T ?_
                         refine RL.p T ?_
                         exact hj
                        ·repeat first | with_reducible exact Mx.refl | with_reducible exact Mx.mix | refine Mx.put rfl ?_ | refine Mx.upd rfl ?_ | refine Mx.updl rfl ?_ | refine Mx.fin rfl ?_ | refine Mx.inner rfl ?_ | refine Mx.none ?_ | exact Mx.refl | exact Mx.mix
                        refine RL.or ?_
                        refine RL.nil _ _ _ _ ?_
                        refine hK35 _ _ _ ?_
                        refine SW.cs (fun hc10 => ?_) (fun hc10 => ?_)
                        ·skip
                         first
                          | (exfalso; first | omega | contradiction | (clear hK35 K35; clear hK34 K34; clear hK33 K33; clear hK30 K30; clear hK23 K23; clear hK22 K22; clear hK21 K21; clear hK20 K20; clear hK19 K19; clear hK18 K18; clear hK17 K17; clear hK16 K16; clear hK15 K15; clear hK13 K13; clear hK12 K12; clear hK10 K10; clear hK9 K9; clear hK8 K8; clear hK7 K7; clear hK5 K5; clear hK4 K4; clear hK2 K2; clear hK1 K1; clear hK0 K0; simp at *; done))
                          | (
                           refine SW.seq_k fun K36 hK36 => ?_
                           refine SW.region _ _ _ _ ?_
                           refine RL.p T ?_
                           refine RL.nil _ _ _ _ ?_
                           refine hK36 _ _ _ ?_
                           refine SW.ret ?_
                           refine retQ.rr (H) ?_
                           clear hK36 K36 hK35 K35 hK34 K34 hK33 K33 hK30 K30 hK23 K23 hK22 K22 hK21 K21 hK20 K20 hK19 K19 hK18 K18 hK17 K17 hK16 K16 hK15 K15 hK13 K13 hK12 K12 hK10 K10 hK9 K9 hK8 K8 hK7 K7 hK5 K5 hK4 K4 hK2 K2 hK1 K1 hK0 K0
                           first
                             | exact ⟨rfl, rfl⟩
                           )
                        ·skip
                         first
                          | (exfalso; first | omega | contradiction | (clear hK35 K35; clear hK34 K34; clear hK33 K33; clear hK30 K30; clear hK23 K23; clear hK22 K22; clear hK21 K21; clear hK20 K20; clear hK19 K19; clear hK18 K18; clear hK17 K17; clear hK16 K16; clear hK15 K15; clear hK13 K13; clear hK12 K12; clear hK10 K10; clear hK9 K9; clear hK8 K8; clear hK7 K7; clear hK5 K5; clear hK4 K4; clear hK2 K2; clear hK1 K1; clear hK0 K0; simp at *; done))
                          | (
                           refine SW.skip ?_
                           first
                             | exact hK21 _ _ (by repeat first | with_reducible exact Mx.refl | with_reducible exact Mx.mix | refine Mx.put rfl ?_ | refine Mx.upd rfl ?_ | refine Mx.updl rfl ?_ | refine Mx.fin rfl ?_ | refine Mx.inner rfl ?_ | refine Mx.none ?_ | exact Mx.refl | exact Mx.mix) ⟨(.var bp 58 [.int .i64 ((room : Nat) : Int), .int .i64 ((wait : Nat) : Int), .slice la1 ln1 lc1, .int .i64 us1, .int .i64 ((age1 : Nat) : Int)] :: .row la1 ln1 lc1 39 2 (List.flatMap PdC l1) :: .var bm 55 [.int .i64 ((room : Nat) : Int), .int .i64 ((wait : Nat) : Int), .int .i64 ((age1 : Nat) : Int), .slice ma2 mn2 mc2] :: ((D2 ++ (D1 ++ G)) ++ H)), SubL.by, la1, ln1, lc1, l1, age1, us1, ma2, mn2, mc2, M2, D2 ++ (D1 ++ G), ⟨hln1, hus1, hu1', (fun y hy => (hly1 y hy).elim (fun m => (hlo y m).sub SubL.by) (fun m => m.sub SubL.by)), hag1', hmn2, hRf2 (D1 ++ G) hmr.app, (fun y hy => (hly2 y hy).elim (fun m => (hMo y m).sub SubL.by) (fun m => m.sub SubL.by)), hml1⟩, rfl⟩
                             | exact hK21 _ _ (by repeat first | with_reducible exact Mx.refl | with_reducible exact Mx.mix | refine Mx.put rfl ?_ | refine Mx.upd rfl ?_ | refine Mx.updl rfl ?_ | refine Mx.fin rfl ?_ | refine Mx.inner rfl ?_ | refine Mx.none ?_ | exact Mx.refl | exact Mx.mix) ⟨(.var bp 58 [.int .i64 ((room : Nat) : Int), .int .i64 ((wait : Nat) : Int), .slice la ln lc, .int .i64 used, .int .i64 ((age : Nat) : Int)] :: .row la ln lc 39 2 (List.flatMap PdC l) :: .var bm 55 [.int .i64 ((room : Nat) : Int), .int .i64 ((wait : Nat) : Int), .int .i64 ((age : Nat) : Int), .slice ma mn mc] :: ((G) ++ H)), SubL.by, la, ln, lc, l, age, used, ma, mn, mc, M, G, ⟨hln, hus, hur, hlo, hag, hmn, hmr, hMo, hml⟩, rfl⟩
                           )
                        )
                     )
                 ·rintro frU21 HJ ⟨la, ln, lc, l, age, used, ma, mn, mc, M, G, ⟨hln, hus, hur, hlo, hag, hmn, hmr, hMo, hml⟩, rfl⟩
                  refine SW.seq_k fun K37 hK37 => ?_
                  refine SW.draw [(99, 0), (100, 1), (101, 2), (102, 3), (103, 4), (104, 5), (105, 6), (106, 7), (107, 8), (108, 9), (109, 10), (110, 11), (111, 12), (112, 13), (113, 14), (114, 15), (115, 16), (116, 17)] [[], [0], [1, 0], [], [3], [4, 3], [5, 4, 3], [2, 1, 0, 6, 5, 4, 3], [7, 2, 1, 0, 6, 5, 4, 3], [8, 7, 2, 1, 0, 6, 5, 4, 3], [9, 8, 7, 2, 1, 0, 6, 5, 4, 3], [10, 9, 8, 7, 2, 1, 0, 6, 5, 4, 3], [9, 8, 7, 2, 1, 0, 6, 5, 4, 3], [12, 9, 8, 7, 2, 1, 0, 6, 5, 4, 3], [13, 12, 9, 8, 7, 2, 1, 0, 6, 5, 4, 3], [14, 13, 12, 9, 8, 7, 2, 1, 0, 6, 5, 4, 3], [11, 10, 9, 8, 7, 2, 1, 0, 6, 5, 4, 3, 15, 14, 13, 12], [9, 8, 7, 2, 1, 0, 6, 5, 4, 3, 16, 11, 10, 15, 14, 13, 12]] mixed (by kernel_rfl) (by kernel_rfl) ?_
                  refine RD.p T ?_
                  refine RD.p T ?_
                  refine RD.p T ?_
                  refine RD.p T ?_
                  refine RD.q rfl rfl (Gd.none rfl) (by first | exact QV.load_var1 T rfl rfl rfl rfl (by repeat first | exact At.head _ _ | assumption | exact At.put (by assumption) _ | apply At.tail | apply At.app) rfl | exact QV.load_varN T rfl rfl rfl rfl rfl (by repeat first | exact At.head _ _ | assumption | exact At.put (by assumption) _ | apply At.tail | apply At.app) (by exact (rfl : _ = [_])) rfl | exact QV.load_elem T rfl rfl rfl rfl (hB _) (by first | exact map_get _ _ (by omega) | assumption)) ?_
                  refine RD.nv rfl rfl rfl (Gd.none rfl) ?_
                  refine NV.sat (fun hs => ?_) (fun c hc => by cases hc)
                  refine NV.call rfl rfl rfl fun10 rfl rfl (waits bp room wait age used la ln lc (by repeat first | exact At.head _ _ | apply At.tail | apply At.app) l (Rd.rowh hs (by repeat first | exact At.head _ _ | apply At.tail | apply At.app)) hln (by have := usedM_len (mg l); rw [mg_len] at this; omega) (fun y hy => (hlo y hy).sub SubL.by)) ?_
                  rintro _ _ ⟨D4, a4, c4, ws, rfl, e, hws, hwo⟩; obtain rfl := e.symm
                  have hwl : ln = ws.length := by rw [hln, ← mg_len, ← hws, mg_len]
                  refine ⟨(Stab.cons rfl (Gd.none rfl) (by first | exact QV.load_var1 T rfl rfl rfl rfl (by repeat first | exact At.head _ _ | assumption | exact At.put (by assumption) _ | apply At.tail | apply At.app) rfl | exact QV.load_varN T rfl rfl rfl rfl rfl (by repeat first | exact At.head _ _ | assumption | exact At.put (by assumption) _ | apply At.tail | apply At.app) rfl rfl | exact QV.load_elem T rfl rfl rfl rfl (hB _) (by first | exact map_get _ _ (by omega) | assumption)) (Stab.cons rfl (Gd.none rfl) (pev_sound T rfl) (Stab.cons rfl (Gd.none rfl) (pev_sound T rfl) (Stab.cons rfl (Gd.none rfl) (pev_sound T rfl) Stab.nil)))), ?_⟩
                  refine RD.nv rfl rfl rfl (Gd.none rfl) ?_
                  refine NV.sat (fun hs => ?_) (fun c hc => by cases hc)
                  refine NV.call rfl rfl rfl fun19 rfl rfl (pfrom ws a4 ln c4 (Rd.rowh hs (by repeat first | exact At.head _ _ | apply At.tail | apply At.app)) hwl (by have := usedM_len (mg l); rw [mg_len] at this; omega) (fun k => (pd_mem hwo k).sub SubL.by)) ?_
                  rintro _ _ ⟨a5, c5, rfl, e⟩; obtain rfl := e.symm
                  refine ⟨(Stab.cons rfl (Gd.none rfl) (by first | exact QV.load_var1 T rfl rfl rfl rfl (by repeat first | exact At.head _ _ | assumption | exact At.put (by assumption) _ | apply At.tail | apply At.app) rfl | exact QV.load_varN T rfl rfl rfl rfl rfl (by repeat first | exact At.head _ _ | assumption | exact At.put (by assumption) _ | apply At.tail | apply At.app) rfl rfl | exact QV.load_elem T rfl rfl rfl rfl (hB _) (by first | exact map_get _ _ (by omega) | assumption)) (Stab.cons rfl (Gd.none rfl) (pev_sound T rfl) (Stab.cons rfl (Gd.none rfl) (pev_sound T rfl) (Stab.cons rfl (Gd.none rfl) (pev_sound T rfl) Stab.nil)))), ?_⟩
                  refine RD.nv rfl rfl rfl (Gd.none rfl) ?_
                  refine NV.sat (fun hs => ?_) (fun c hc => by cases hc)
                  refine NV.call rfl rfl rfl fun18 rfl rfl (samePT ws a5 ln c5 (Rd.rowh hs (by repeat first | exact At.head _ _ | apply At.tail | apply At.app)) hwl (fun y hy => (hwo y hy).sub SubL.by) M ma mn mc (SubL.rd (T := G) SubL.by hmr) hmn (fun y hy => (hMo y hy).sub SubL.by) (by have := usedM_len (mg l); rw [mg_len] at this; omega) (hws.trans hml.symm)) ?_
                  rintro _ _ ⟨rfl, e⟩; obtain rfl := e.symm
                  refine ⟨Stab.nil, ?_⟩
                  refine RD.p T ?_
                  refine RD.p T ?_
                  refine RD.split 9 rfl (fun hs2 => ?_) (fun hs2 => ?_)
                  ·try simp only [decide_eq_true_eq, decide_eq_false_iff_not, Bool.not_eq_true', Bool.not_eq_false', Int.not_lt, Int.not_le, Int.toNat_natCast] at hs2
                   first
                    | (exfalso; first | omega | contradiction | (clear hK37 K37; clear hK20 K20; clear hK19 K19; clear hK18 K18; clear hK17 K17; clear hK16 K16; clear hK15 K15; clear hK13 K13; clear hK12 K12; clear hK10 K10; clear hK9 K9; clear hK8 K8; clear hK7 K7; clear hK5 K5; clear hK4 K4; clear hK2 K2; clear hK1 K1; clear hK0 K0; simp at *; done))
                    | (
                     refine RD.skip rfl rfl rfl rfl ?_
                     refine RD.skip rfl rfl rfl rfl ?_
                     refine RD.skip rfl rfl rfl rfl ?_
                     refine RD.skip rfl rfl rfl rfl ?_
                     refine RD.skip rfl rfl rfl rfl ?_
                     refine RD.skipN rfl rfl rfl rfl rfl (Stab.skip rfl rfl rfl rfl (Stab.skip rfl rfl rfl rfl (Stab.skip rfl rfl rfl rfl (Stab.skip rfl rfl rfl rfl Stab.nil)))) ?_
                     refine RD.skip rfl rfl rfl rfl ?_
                     refine RD.p T ?_
                     refine RD.k rfl rfl ?_
                     refine hK37 _ _ _ ?_
                     refine SW.cond_t rfl ?_
                     refine SW.seq_k fun K38 hK38 => ?_
                     refine SW.region _ _ _ _ ?_
                     refine RL.p T ?_
                     refine RL.nil _ _ _ _ ?_
                     refine hK38 _ _ _ ?_
                     refine SW.ret ?_
                     refine retQ.rr (H) ?_
                     clear hK38 K38 hK37 K37 hK20 K20 hK19 K19 hK18 K18 hK17 K17 hK16 K16 hK15 K15 hK13 K13 hK12 K12 hK10 K10 hK9 K9 hK8 K8 hK7 K7 hK5 K5 hK4 K4 hK2 K2 hK1 K1 hK0 K0
                     first
                       | exact ⟨rfl, rfl⟩
                     )
                  ·try simp only [decide_eq_true_eq, decide_eq_false_iff_not, Bool.not_eq_true', Bool.not_eq_false', Int.not_lt, Int.not_le, Int.toNat_natCast] at hs2
                   first
                    | (exfalso; first | omega | contradiction | (clear hK37 K37; clear hK20 K20; clear hK19 K19; clear hK18 K18; clear hK17 K17; clear hK16 K16; clear hK15 K15; clear hK13 K13; clear hK12 K12; clear hK10 K10; clear hK9 K9; clear hK8 K8; clear hK7 K7; clear hK5 K5; clear hK4 K4; clear hK2 K2; clear hK1 K1; clear hK0 K0; simp at *; done))
                    | (
                     refine RD.p T ?_
                     refine RD.p T ?_
                     refine RD.p T ?_
                     refine RD.p T ?_
                     refine RD.q rfl rfl (Gd.yes rfl rfl) (by first | exact QV.load_var1 T rfl rfl rfl rfl (by repeat first | exact At.head _ _ | assumption | exact At.put (by assumption) _ | apply At.tail | apply At.app) rfl | exact QV.load_varN T rfl rfl rfl rfl rfl (by repeat first | exact At.head _ _ | assumption | exact At.put (by assumption) _ | apply At.tail | apply At.app) (by exact (rfl : _ = [_])) rfl | exact QV.load_elem T rfl rfl rfl rfl (hB _) (by first | exact map_get _ _ (by omega) | assumption)) ?_
                     refine RD.nv rfl rfl rfl (Gd.yes rfl rfl) ?_
                     refine NV.call rfl rfl rfl fun8 rfl rfl (ageC bp room wait age used la ln lc (by repeat first | exact At.head _ _ | apply At.tail | apply At.app)) ?_
                     rintro _ _ ⟨rfl, e⟩; obtain rfl := e.symm
                     refine ⟨(Stab.cons rfl (Gd.yes rfl rfl) (by first | exact QV.load_var1 T rfl rfl rfl rfl (by repeat first | exact At.head _ _ | assumption | exact At.put (by assumption) _ | apply At.tail | apply At.app) rfl | exact QV.load_varN T rfl rfl rfl rfl rfl (by repeat first | exact At.head _ _ | assumption | exact At.put (by assumption) _ | apply At.tail | apply At.app) rfl rfl | exact QV.load_elem T rfl rfl rfl rfl (hB _) (by first | exact map_get _ _ (by omega) | assumption)) (Stab.cons rfl (Gd.yes rfl rfl) (pev_sound T rfl) (Stab.cons rfl (Gd.yes rfl rfl) (pev_sound T rfl) (Stab.cons rfl (Gd.yes rfl rfl) (pev_sound T rfl) Stab.nil)))), ?_⟩
                     refine RD.p T ?_
                     refine RD.p T ?_
                     refine RD.k rfl rfl ?_
                     refine hK37 _ _ _ ?_
                     refine SW.cs (fun hc11 => ?_) (fun hc11 => ?_)
                     ·skip
                      first
                       | (exfalso; first | omega | contradiction | (clear hK37 K37; clear hK20 K20; clear hK19 K19; clear hK18 K18; clear hK17 K17; clear hK16 K16; clear hK15 K15; clear hK13 K13; clear hK12 K12; clear hK10 K10; clear hK9 K9; clear hK8 K8; clear hK7 K7; clear hK5 K5; clear hK4 K4; clear hK2 K2; clear hK1 K1; clear hK0 K0; simp at *; done))
                       | (
                        refine SW.seq_k fun K39 hK39 => ?_
                        refine SW.region _ _ _ _ ?_
                        refine RL.p T ?_
                        refine RL.nil _ _ _ _ ?_
                        refine hK39 _ _ _ ?_
                        refine SW.ret ?_
                        refine retQ.rr (H) ?_
                        clear hK39 K39 hK37 K37 hK20 K20 hK19 K19 hK18 K18 hK17 K17 hK16 K16 hK15 K15 hK13 K13 hK12 K12 hK10 K10 hK9 K9 hK8 K8 hK7 K7 hK5 K5 hK4 K4 hK2 K2 hK1 K1 hK0 K0
                        first
                          | exact ⟨rfl, rfl⟩
                        )
                     ·skip
                      first
                       | (exfalso; first | omega | contradiction | (clear hK37 K37; clear hK20 K20; clear hK19 K19; clear hK18 K18; clear hK17 K17; clear hK16 K16; clear hK15 K15; clear hK13 K13; clear hK12 K12; clear hK10 K10; clear hK9 K9; clear hK8 K8; clear hK7 K7; clear hK5 K5; clear hK4 K4; clear hK2 K2; clear hK1 K1; clear hK0 K0; simp at *; done))
                       | (
                        refine SW.skip ?_
                        refine hK19 _ _ _ ?_
                        refine SW.wk (.var bp 58 [.int .i64 ((room : Nat) : Int), .int .i64 ((wait : Nat) : Int), .slice la ln lc, .int .i64 used, .int .i64 ((age : Nat) : Int)] :: .row la ln lc 39 2 (List.flatMap PdC l) :: .var bm 55 [.int .i64 ((room : Nat) : Int), .int .i64 ((wait : Nat) : Int), .int .i64 ((age : Nat) : Int), .slice ma mn mc] :: ((G) ++ H)) ?_
                        refine SW.region _ _ _ _ ?_
                        first | refine RL.ar ?_ | refine RL.p T ?_
                        refine RL.p T ?_
                        refine RL.nil _ _ _ _ ?_
                        exact ⟨nr - (k + 1), (by omega), k + 1, la, ln, lc, l, age, used, ma, mn, mc, M, G, (by rfl), ⟨by omega, hln, hus, hur, hlo, hag, hmn, hmr, hMo, hml⟩, (.consI rfl (by first | omega | rfl) (.nil (by repeat first | with_reducible exact Mx.refl | with_reducible exact Mx.mix | refine Mx.put rfl ?_ | refine Mx.upd rfl ?_ | refine Mx.updl rfl ?_ | refine Mx.fin rfl ?_ | refine Mx.inner rfl ?_ | refine Mx.none ?_ | exact Mx.refl | exact Mx.mix))), rfl, rfl⟩
                        )
                     )
                 )
              ·skip
               first
                | (exfalso; first | omega | contradiction | (clear hK18 K18; clear hK17 K17; clear hK16 K16; clear hK15 K15; clear hK13 K13; clear hK12 K12; clear hK10 K10; clear hK9 K9; clear hK8 K8; clear hK7 K7; clear hK5 K5; clear hK4 K4; clear hK2 K2; clear hK1 K1; clear hK0 K0; simp at *; done))
                | (
                 refine SW.exit ?_
                 refine hK15 _ _ _ ?_
                 refine SW.seq_k fun K40 hK40 => ?_
                 refine SW.region _ _ _ _ ?_
                 refine RL.p T ?_
                 refine RL.nil _ _ _ _ ?_
                 refine hK40 _ _ _ ?_
                 refine SW.ret ?_
                 refine retQ.rr (H) ?_
                 clear hK40 K40 hK18 K18 hK17 K17 hK16 K16 hK15 K15 hK13 K13 hK12 K12 hK10 K10 hK9 K9 hK8 K8 hK7 K7 hK5 K5 hK4 K4 hK2 K2 hK1 K1 hK0 K0
                 first
                   | exact ⟨rfl, rfl⟩
                 )
             )
          )
       )
    )
theorem packActs_bad {w0 : World} {H : List Chunk} (room wait : Int) (h : room < 8 ∨ 2048 < room ∨ wait < 1 ∨ 1000 < wait) (ls : List Ac) (sr : Option Addr) (nr cr : Nat) (hB : ∀ H, Rd w0 H sr nr cr 4 (ls.flatMap AcQ)) (hnr : nr = ls.length) (hmr : nr ≤ 4398046511000) (hls : ∀ H, ∀ y ∈ ls, AcOk w0 H y) : SC Try.prog w0 4 #[.int .i64 room, .int .i64 wait, .slice sr nr cr] H (fun v H' => v = .bool true ∧ H' = H) := by
 refine SC.enter Try.func4 rfl (Nat.le_of_ble_eq_true rfl) ?_
 refine SW.seq_k fun K0 hK0 => ?_
 refine SW.region _ _ _ _ ?_
 refine RL.p T ?_
 refine RL.nil _ _ _ _ ?_
 refine hK0 _ _ _ ?_
 refine SW.seq_k fun K1 hK1 => ?_
 refine SW.seq_k fun K2 hK2 => ?_
 refine SW.region _ _ _ _ ?_
 refine RL.c fun5 (fun hs => alive) ?_
 rintro _ _ ⟨rfl, e⟩; obtain rfl := e.symm
 refine RL.p T ?_
 refine RL.nil _ _ _ _ ?_
 refine hK2 _ _ _ ?_
 refine SW.cs (fun hc0 => ?_) (fun hc0 => ?_)
 ·skip
  first
   | (exfalso; first | omega | contradiction | (clear hK2 K2; clear hK1 K1; clear hK0 K0; simp at *; done))
   | (
    refine SW.seq_k fun K3 hK3 => ?_
    refine SW.region _ _ _ _ ?_
    refine RL.p T ?_
    refine RL.nil _ _ _ _ ?_
    refine hK3 _ _ _ ?_
    refine SW.ret ?_
    refine retQ.rr (H) ?_
    clear hK3 K3 hK2 K2 hK1 K1 hK0 K0
    exact ⟨rfl, rfl⟩
    )
 ·skip
  first
   | (exfalso; first | omega | contradiction | (clear hK2 K2; clear hK1 K1; clear hK0 K0; simp at *; done))
   | (
    refine SW.skip ?_
    refine hK1 _ _ _ ?_
    refine SW.seq_k fun K4 hK4 => ?_
    refine SW.seq_k fun K5 hK5 => ?_
    refine SW.region _ _ _ _ ?_
    refine RL.p T ?_
    refine RL.c fun11 (fun hs => great ls sr nr cr hB hnr hmr hls) ?_
    rintro _ _ ⟨gt, rfl, hgt, e⟩; obtain rfl := e.symm
    refine RL.nil _ _ _ _ ?_
    refine hK5 _ _ _ ?_
    refine SW.cs (fun hc1 => ?_) (fun hc1 => ?_)
    ·skip
     first
      | (exfalso; first | omega | contradiction | (clear hK5 K5; clear hK4 K4; clear hK2 K2; clear hK1 K1; clear hK0 K0; simp at *; done))
      | (
       refine SW.seq_k fun K6 hK6 => ?_
       refine SW.region _ _ _ _ ?_
       refine RL.p T ?_
       refine RL.nil _ _ _ _ ?_
       refine hK6 _ _ _ ?_
       refine SW.ret ?_
       refine retQ.rr (H) ?_
       clear hK6 K6 hK5 K5 hK4 K4 hK2 K2 hK1 K1 hK0 K0
       exact ⟨rfl, rfl⟩
       )
    ·skip
     first
      | (exfalso; first | omega | contradiction | (clear hK5 K5; clear hK4 K4; clear hK2 K2; clear hK1 K1; clear hK0 K0; simp at *; done))
      | (
       refine SW.skip ?_
       refine hK4 _ _ _ ?_
       refine SW.seq_k fun K7 hK7 => ?_
       refine SW.region _ _ _ _ ?_
       refine RL.p T ?_
       refine RL.p T ?_
       refine RL.c fun6 (fun hs => new_bad room wait h) ?_
       rintro _ _ ⟨rfl, e⟩; obtain rfl := e.symm
       refine RL.p T ?_
       refine RL.p T ?_
       refine RL.p T ?_
       refine RL.p T ?_
       refine RL.p T ?_
       refine RL.nil _ _ _ _ ?_
       refine hK7 _ _ _ ?_
       refine SW.seq_k fun K8 hK8 => ?_
       refine SW.region _ _ _ _ ?_
       refine RL.p T ?_
       refine RL.p T ?_
       refine RL.c fun12 (fun hs => rnew_bad room wait h) ?_
       rintro _ _ ⟨rfl, e⟩; obtain rfl := e.symm
       refine RL.p T ?_
       refine RL.p T ?_
       refine RL.p T ?_
       refine RL.p T ?_
       refine RL.p T ?_
       refine RL.nil _ _ _ _ ?_
       refine hK8 _ _ _ ?_
       refine SW.seq_k fun K9 hK9 => ?_
       refine SW.seq_k fun K10 hK10 => ?_
       refine SW.region _ _ _ _ ?_
       refine RL.p T ?_
       refine RL.p T ?_
       refine RL.nil _ _ _ _ ?_
       refine hK10 _ _ _ ?_
       refine SW.cs (fun hc2 => ?_) (fun hc2 => ?_)
       ·skip
        first
         | (exfalso; first | omega | contradiction | (clear hK10 K10; clear hK9 K9; clear hK8 K8; clear hK7 K7; clear hK5 K5; clear hK4 K4; clear hK2 K2; clear hK1 K1; clear hK0 K0; simp at *; done))
         | (
          refine SW.seq_k fun K11 hK11 => ?_
          refine SW.region _ _ _ _ ?_
          refine RL.p T ?_
          refine RL.p T ?_
          refine RL.p T ?_
          refine RL.sp 37 (fun hs0 => ?_) (fun hs0 => ?_)
          ·skip
           first
            | (exfalso; first | omega | contradiction | (clear hK11 K11; clear hK10 K10; clear hK9 K9; clear hK8 K8; clear hK7 K7; clear hK5 K5; clear hK4 K4; clear hK2 K2; clear hK1 K1; clear hK0 K0; simp at *; done))
            | (
             refine RL.p T ?_
             refine RL.p T ?_
             refine RL.p T ?_
             refine RL.p T ?_
             refine RL.nil _ _ _ _ ?_
             refine hK11 _ _ _ ?_
             refine SW.ret ?_
             refine retQ.rr (H) ?_
             clear hK11 K11 hK10 K10 hK9 K9 hK8 K8 hK7 K7 hK5 K5 hK4 K4 hK2 K2 hK1 K1 hK0 K0
             exact ⟨rfl, rfl⟩
             )
          ·skip
           first
            | (exfalso; first | omega | contradiction | (clear hK11 K11; clear hK10 K10; clear hK9 K9; clear hK8 K8; clear hK7 K7; clear hK5 K5; clear hK4 K4; clear hK2 K2; clear hK1 K1; clear hK0 K0; simp at *; done))
            | (
             refine RL.guard_no rfl rfl rfl ?_
             refine RL.guard_no rfl rfl rfl ?_
             refine RL.p T ?_
             refine RL.p T ?_
             refine RL.nil _ _ _ _ ?_
             refine hK11 _ _ _ ?_
             refine SW.ret ?_
             refine retQ.rr (H) ?_
             clear hK11 K11 hK10 K10 hK9 K9 hK8 K8 hK7 K7 hK5 K5 hK4 K4 hK2 K2 hK1 K1 hK0 K0
             exact ⟨rfl, rfl⟩
             )
          )
       ·skip
        first
         | (exfalso; first | omega | contradiction | (clear hK10 K10; clear hK9 K9; clear hK8 K8; clear hK7 K7; clear hK5 K5; clear hK4 K4; clear hK2 K2; clear hK1 K1; clear hK0 K0; simp at *; done))
         | (
          refine SW.skip ?_
          refine hK9 _ _ _ ?_
          refine SW.seq_k fun K12 hK12 => ?_
          refine SW.seq_k fun K13 hK13 => ?_
          refine SW.region _ _ _ _ ?_
          refine RL.p T ?_
          refine RL.p T ?_
          refine RL.p T ?_
          refine RL.sp 43 (fun hs1 => ?_) (fun hs1 => ?_)
          ·skip
           first
            | (exfalso; first | omega | contradiction | (clear hK13 K13; clear hK12 K12; clear hK10 K10; clear hK9 K9; clear hK8 K8; clear hK7 K7; clear hK5 K5; clear hK4 K4; clear hK2 K2; clear hK1 K1; clear hK0 K0; simp at *; done))
            | (
             refine RL.guard_no rfl rfl rfl ?_
             refine RL.guard_no rfl rfl rfl ?_
             refine RL.p T ?_
             refine RL.nil _ _ _ _ ?_
             refine hK13 _ _ _ ?_
             refine SW.cond_t rfl ?_
             refine SW.seq_k fun K14 hK14 => ?_
             refine SW.region _ _ _ _ ?_
             refine RL.p T ?_
             refine RL.nil _ _ _ _ ?_
             refine hK14 _ _ _ ?_
             refine SW.ret ?_
             refine retQ.rr (H) ?_
             clear hK14 K14 hK13 K13 hK12 K12 hK10 K10 hK9 K9 hK8 K8 hK7 K7 hK5 K5 hK4 K4 hK2 K2 hK1 K1 hK0 K0
             exact ⟨rfl, rfl⟩
             )
          ·skip
           first
            | (exfalso; first | omega | contradiction | (clear hK13 K13; clear hK12 K12; clear hK10 K10; clear hK9 K9; clear hK8 K8; clear hK7 K7; clear hK5 K5; clear hK4 K4; clear hK2 K2; clear hK1 K1; clear hK0 K0; simp at *; done))
            | (
             refine RL.p T ?_
             refine RL.p T ?_
             refine RL.p T ?_
             refine RL.nil _ _ _ _ ?_
             refine hK13 _ _ _ ?_
             refine SW.cs (fun hc3 => ?_) (fun hc3 => ?_)
             ·skip
              first
               | (exfalso; first | omega | contradiction | (clear hK13 K13; clear hK12 K12; clear hK10 K10; clear hK9 K9; clear hK8 K8; clear hK7 K7; clear hK5 K5; clear hK4 K4; clear hK2 K2; clear hK1 K1; clear hK0 K0; simp at *; done))
               | (
                refine SW.seq_k fun K15 hK15 => ?_
                refine SW.region _ _ _ _ ?_
                refine RL.p T ?_
                refine RL.nil _ _ _ _ ?_
                refine hK15 _ _ _ ?_
                refine SW.ret ?_
                refine retQ.rr (H) ?_
                clear hK15 K15 hK13 K13 hK12 K12 hK10 K10 hK9 K9 hK8 K8 hK7 K7 hK5 K5 hK4 K4 hK2 K2 hK1 K1 hK0 K0
                exact ⟨rfl, rfl⟩
                )
             ·skip
              exfalso; first | omega | contradiction | (clear hK13 K13; clear hK12 K12; clear hK10 K10; clear hK9 K9; clear hK8 K8; clear hK7 K7; clear hK5 K5; clear hK4 K4; clear hK2 K2; clear hK1 K1; clear hK0 K0; simp at *; done)
             )
          )
       )
    )
theorem packActsI {w0 : World} {H : List Chunk} (room wait : Int) (ls : List Ac) (sr : Option Addr) (nr cr : Nat) (hB : ∀ H, Rd w0 H sr nr cr 4 (ls.flatMap AcQ)) (hnr : nr = ls.length) (hmr : nr ≤ 4398046511000) (hls : ∀ H, ∀ y ∈ ls, AcOk w0 H y) : SC Try.prog w0 4 #[.int .i64 room, .int .i64 wait, .slice sr nr cr] H (fun v H' => v = .bool true ∧ H' = H) := by
  by_cases h : room < 8 ∨ 2048 < room ∨ wait < 1 ∨ 1000 < wait
  · exact packActs_bad room wait h ls sr nr cr hB hnr hmr hls
  · obtain ⟨q, rfl⟩ := Int.eq_ofNat_of_zero_le (by omega : 0 ≤ room)
    obtain ⟨u, rfl⟩ := Int.eq_ofNat_of_zero_le (by omega : 0 ≤ wait)
    exact packActs q u (by omega) ls sr nr cr hB hnr hmr hls
end Go.Proofs.Ytlgdfoniijmlbaa.M
