import Derived.Test.YthigfghfpmpiiaaDoorProg
import Derived.Test.YthigfghfpmpiiaaDoorFA19D
import Derived.Test.YthigfghfpmpiiaaDoorS26
import Derived.Test.YthigfghfpmpiiaaDoorP19e
set_option linter.unusedVariables false
set_option linter.unusedSimpArgs false
namespace Go.Proofs.YthigfghfpmpiiaaDoor.M
open Go Go.Sep Go.Proofs
set_option maxRecDepth 10000
set_option maxHeartbeats 20000000
theorem sameB {w0 : World} {H : List Chunk} (sa sb : Option Addr) (n c nb cb : Nat) (es fs : List Int) (hR : Rd w0 H sa n c 1 (es.map (.int .u8))) (hS : Rd w0 H sb nb cb 1 (fs.map (.int .u8))) (hn : n = es.length) (hm : nb = fs.length) (hm1 : n ≤ 140737488351232) (hm2 : nb ≤ 140737488351232) (he : es = fs) : SC Tryd.prog w0 16 #[.slice sa n c, .slice sb nb cb] H (fun v H' => v = .bool true ∧ H' = H) := by
  have h := same sa sb n c nb cb es fs hR hS hn hm hm1 hm2
  rw [decide_eq_true he] at h
  exact h
theorem take_rd {w0 : World} {H : List Chunk} {a : Option Addr} {n c k : Nat} {l : List Pd} (h : Rd w0 H a n c 2 (l.flatMap PdC)) (hk : k ≤ n) : Rd w0 H (subA a 0 c 2) (k - 0) (c - 0) 2 ((l.take k).flatMap PdC) := by
  have h2 := h.sub (Nat.zero_le k) hk
  have key : ∀ (l : List Pd) (k : Nat), (l.flatMap PdC).take (k * 2) = (l.take k).flatMap PdC := by
    intro l
    induction l with
    | nil => intro k; simp
    | cons p l ih =>
      intro k
      cases k with
      | zero => simp
      | succ k => rw [List.take_succ_cons, List.flatMap_cons, List.flatMap_cons, ← ih k, Nat.succ_mul]; rfl
  rw [Nat.zero_mul, List.drop_zero, Nat.sub_zero, key l k] at h2
  exact h2
theorem pduBehind {w0 : World} {H : List Chunk} (ls : List Pd) (sr : Option Addr) (nr cr : Nat) (hB : ∀ H, Rd w0 H sr nr cr 2 (ls.flatMap PdC)) (hnr : nr = ls.length) (hmr : nr ≤ 4398046511000) (hls : ∀ H, ∀ y ∈ ls, PdOk w0 H y) (ms : List Pd) (sm : Option Addr) (nm cm : Nat) (hB2 : ∀ H, Rd w0 H sm nm cm 2 (ms.flatMap PdC)) (hnr2 : nm = ms.length) (hmr2 : nm ≤ 4398046511000) (hls2 : ∀ H, ∀ y ∈ ms, PdOk w0 H y) (z : Int) (hz0 : 0 ≤ z) (hz1 : z ≤ 65535) : SC Tryd.prog w0 4 #[.slice sr nr cr, .slice sm nm cm, .int .u16 z] H (fun v H' => v = .bool true ∧ H' = H) := by
 refine SC.enter Tryd.func4 rfl (Nat.le_of_ble_eq_true rfl) ?_
 refine SW.seq_k fun K0 hK0 => ?_
 refine SW.region _ _ _ _ ?_
 refine RL.p T ?_
 refine RL.nil _ _ _ _ ?_
 refine hK0 _ _ _ ?_
 refine SW.seq_k fun K1 hK1 => ?_
 refine SW.seq_k fun K2 hK2 => ?_
 refine SW.region _ _ _ _ ?_
 refine RL.c fun8 (fun hs => alive) ?_
 rintro _ _ ⟨rfl, e⟩; obtain rfl := e.symm
 refine RL.p T ?_
 refine RL.nil _ _ _ _ ?_
 refine hK2 _ _ _ ?_
 refine SW.cs (fun hc0 => ?_) (fun hc0 => ?_)
 ·skip
  first
   | (exfalso; first | omega | contradiction | (clear hK2 K2; clear hK1 K1; clear hK0 K0; simp at *; done))
   | (
    refine SW.seq_k fun K3 hK3 => ?_
    refine SW.region _ _ _ _ ?_
    refine RL.p T ?_
    refine RL.nil _ _ _ _ ?_
    refine hK3 _ _ _ ?_
    refine SW.ret ?_
    refine retQ.rr (H) ?_
    clear hK3 K3 hK2 K2 hK1 K1 hK0 K0
    first
      | exact ⟨rfl, rfl⟩
      | exact ⟨boolE (decide_eq_true (by omega)), rfl⟩
    )
 ·skip
  first
   | (exfalso; first | omega | contradiction | (clear hK2 K2; clear hK1 K1; clear hK0 K0; simp at *; done))
   | (
    refine SW.skip ?_
    refine hK1 _ _ _ ?_
    refine SW.seq_k fun K4 hK4 => ?_
    refine SW.seq_k fun K5 hK5 => ?_
    refine SW.region _ _ _ _ ?_
    refine RL.p T ?_
    refine RL.c fun9 (fun hs => great ls sr nr cr (hB _) hnr hmr (fun k => pd_mem (hls _) k)) ?_
    rintro _ _ ⟨gt, rfl, e, hgt⟩; obtain rfl := e.symm
    refine RL.p T ?_
    refine RL.sp 25 (fun hs0 => ?_) (fun hs0 => ?_)
    ·skip
     first
      | (exfalso; first | omega | contradiction | (clear hK5 K5; clear hK4 K4; clear hK2 K2; clear hK1 K1; clear hK0 K0; simp at *; done))
      | (
       refine RL.guard_no rfl rfl rfl ?_
       refine RL.guard_no rfl rfl rfl ?_
       refine RL.p T ?_
       refine RL.nil _ _ _ _ ?_
       refine hK5 _ _ _ ?_
       refine SW.cond_t rfl ?_
       refine SW.seq_k fun K6 hK6 => ?_
       refine SW.region _ _ _ _ ?_
       refine RL.p T ?_
       refine RL.nil _ _ _ _ ?_
       refine hK6 _ _ _ ?_
       refine SW.ret ?_
       refine retQ.rr (H) ?_
       clear hK6 K6 hK5 K5 hK4 K4 hK2 K2 hK1 K1 hK0 K0
       first
         | exact ⟨rfl, rfl⟩
         | exact ⟨boolE (decide_eq_true (by omega)), rfl⟩
       )
    ·skip
     first
      | (exfalso; first | omega | contradiction | (clear hK5 K5; clear hK4 K4; clear hK2 K2; clear hK1 K1; clear hK0 K0; simp at *; done))
      | (
       refine RL.p T ?_
       refine RL.c fun9 (fun hs => great ms sm nm cm (hB2 _) hnr2 hmr2 (fun k => pd_mem (hls2 _) k)) ?_
       rintro _ _ ⟨gt2, rfl, e, hgt2⟩; obtain rfl := e.symm
       refine RL.p T ?_
       refine RL.nil _ _ _ _ ?_
       refine hK5 _ _ _ ?_
       refine SW.cs (fun hc1 => ?_) (fun hc1 => ?_)
       ·skip
        first
         | (exfalso; first | omega | contradiction | (clear hK5 K5; clear hK4 K4; clear hK2 K2; clear hK1 K1; clear hK0 K0; simp at *; done))
         | (
          refine SW.seq_k fun K7 hK7 => ?_
          refine SW.region _ _ _ _ ?_
          refine RL.p T ?_
          refine RL.nil _ _ _ _ ?_
          refine hK7 _ _ _ ?_
          refine SW.ret ?_
          refine retQ.rr (H) ?_
          clear hK7 K7 hK5 K5 hK4 K4 hK2 K2 hK1 K1 hK0 K0
          first
            | exact ⟨rfl, rfl⟩
            | exact ⟨boolE (decide_eq_true (by omega)), rfl⟩
          )
       ·skip
        first
         | (exfalso; first | omega | contradiction | (clear hK5 K5; clear hK4 K4; clear hK2 K2; clear hK1 K1; clear hK0 K0; simp at *; done))
         | (
          refine SW.skip ?_
          refine hK4 _ _ _ ?_
          refine SW.seq_k fun K8 hK8 => ?_
          refine SW.region _ _ _ _ ?_
          refine RL.p T ?_
          refine RL.c fun11 (fun hs => pto ls sr nr cr (hB _) hnr hmr (fun k => pd_mem (hls _) k)) ?_
          rintro _ _ ⟨aT, cT, rfl, e⟩; obtain rfl := e.symm
          refine RL.c fun10 (fun hs => pjoin ls aT nr _ (Rd.rowh hs (by repeat first | exact At.head _ _ | apply At.tail | apply At.app)) hnr hmr (fun k => pd_mem (hls _) k)) ?_
          rintro _ _ ⟨aJ, cJ, rfl, e⟩; obtain rfl := e.symm
          refine RL.p T ?_
          refine RL.p T ?_
          refine RL.p T ?_
          refine RL.p T ?_
          refine RL.p T ?_
          refine RL.nil _ _ _ _ ?_
          refine hK8 _ _ _ ?_
          refine SW.seq_k fun K9 hK9 => ?_
          refine SW.region _ _ _ _ ?_
          refine RL.p T ?_
          refine RL.c fun11 (fun hs => pto ms sm nm cm (hB2 _) hnr2 hmr2 (fun k => pd_mem (hls2 _) k)) ?_
          rintro _ _ ⟨aT2, cT2, rfl, e⟩; obtain rfl := e.symm
          refine RL.c fun10 (fun hs => pjoin ms aT2 nm _ (Rd.rowh hs (by repeat first | exact At.head _ _ | apply At.tail | apply At.app)) hnr2 hmr2 (fun k => pd_mem (hls2 _) k)) ?_
          rintro _ _ ⟨aK, cK, rfl, e⟩; obtain rfl := e.symm
          refine RL.p T ?_
          refine RL.p T ?_
          refine RL.p T ?_
          refine RL.p T ?_
          refine RL.p T ?_
          refine RL.nil _ _ _ _ ?_
          refine hK9 _ _ _ ?_
          refine SW.seq_k fun K10 hK10 => ?_
          refine SW.seq_k fun K11 hK11 => ?_
          refine SW.region _ _ _ _ ?_
          refine RL.p T ?_
          refine RL.p T ?_
          refine RL.p T ?_
          refine RL.sp 43 (fun hs1 => ?_) (fun hs1 => ?_)
          ·skip
           first
            | (exfalso; first | omega | contradiction | (clear hK11 K11; clear hK10 K10; clear hK9 K9; clear hK8 K8; clear hK5 K5; clear hK4 K4; clear hK2 K2; clear hK1 K1; clear hK0 K0; simp at *; done))
            | (
             refine RL.guard_no rfl rfl rfl ?_
             refine RL.guard_no rfl rfl rfl ?_
             refine RL.p T ?_
             refine RL.nil _ _ _ _ ?_
             refine hK11 _ _ _ ?_
             refine SW.cond_t rfl ?_
             refine SW.seq_k fun K12 hK12 => ?_
             refine SW.region _ _ _ _ ?_
             refine RL.p T ?_
             refine RL.nil _ _ _ _ ?_
             refine hK12 _ _ _ ?_
             refine SW.ret ?_
             refine retQ.rr (H) ?_
             clear hK12 K12 hK11 K11 hK10 K10 hK9 K9 hK8 K8 hK5 K5 hK4 K4 hK2 K2 hK1 K1 hK0 K0
             first
               | exact ⟨rfl, rfl⟩
               | exact ⟨boolE (decide_eq_true (by omega)), rfl⟩
             )
          ·skip
           first
            | (exfalso; first | omega | contradiction | (clear hK11 K11; clear hK10 K10; clear hK9 K9; clear hK8 K8; clear hK5 K5; clear hK4 K4; clear hK2 K2; clear hK1 K1; clear hK0 K0; simp at *; done))
            | (
             refine RL.p T ?_
             refine RL.p T ?_
             refine RL.p T ?_
             refine RL.nil _ _ _ _ ?_
             refine hK11 _ _ _ ?_
             refine SW.cs (fun hc2 => ?_) (fun hc2 => ?_)
             ·skip
              first
               | (exfalso; first | omega | contradiction | (clear hK11 K11; clear hK10 K10; clear hK9 K9; clear hK8 K8; clear hK5 K5; clear hK4 K4; clear hK2 K2; clear hK1 K1; clear hK0 K0; simp at *; done))
               | (
                refine SW.seq_k fun K13 hK13 => ?_
                refine SW.region _ _ _ _ ?_
                refine RL.p T ?_
                refine RL.nil _ _ _ _ ?_
                refine hK13 _ _ _ ?_
                refine SW.ret ?_
                refine retQ.rr (H) ?_
                clear hK13 K13 hK11 K11 hK10 K10 hK9 K9 hK8 K8 hK5 K5 hK4 K4 hK2 K2 hK1 K1 hK0 K0
                first
                  | exact ⟨rfl, rfl⟩
                  | exact ⟨boolE (decide_eq_true (by omega)), rfl⟩
                )
             ·skip
              first
               | (exfalso; first | omega | contradiction | (clear hK11 K11; clear hK10 K10; clear hK9 K9; clear hK8 K8; clear hK5 K5; clear hK4 K4; clear hK2 K2; clear hK1 K1; clear hK0 K0; simp at *; done))
               | (
                refine SW.skip ?_
                refine hK10 _ _ _ ?_
                refine SW.seq_k fun K14 hK14 => ?_
                have hje : (joinV ls).2 = 0 := by omega
                have hje2 : (joinV ms).2 = 0 := by omega
                obtain ⟨hl0, hu, hJ⟩ := join_ok hje
                obtain ⟨hl02, hu2, hJ2⟩ := join_ok hje2
                have hjl : (joinV ls).1.length = usedM (mg ls) := by rw [hJ]; exact joinB_len _
                have hjl2 : (joinV ms).1.length = usedM (mg ms) := by rw [hJ2]; exact joinB_len _
                have hn1 := usedM_len (mg ls)
                have hn2 := usedM_len (mg ms)
                rw [mg_len] at hn1 hn2
                have hmk := mok_all (hls H) hu
                refine SW.region _ _ _ _ ?_
                refine RL.bs T rfl rfl rfl (by exact (rfl : _ = some [])) (fun b48_0 => ?_)
                refine RL.p T ?_
                refine RL.apR (enc := PdC) T [] (ys := ls) (fun a5_ c5_ => ?_) (hR := fun hs => hB _)
                refine RL.p T ?_
                refine RL.apR (enc := PdC) T ([] ++ ls) (ys := ms) (fun a6_ c6_ => ?_) (hR := fun hs => hB2 _)
                refine RL.c fun11 (fun hs => pto (ls ++ ms) a6_ (0 + nr + nm) c6_ (Rd.rowh hs (by repeat first | exact At.head _ _ | apply At.tail | apply At.app)) (by simp [hnr, hnr2]) (by omega) (fun k => pd_mem (fun y hy => (List.mem_append.1 hy).elim (hls _ y) (hls2 _ y)) k)) ?_
                rintro _ _ ⟨aT3, cT3, rfl, e⟩; obtain rfl := e.symm
                refine RL.c fun10 (fun hs => pjoin (ls ++ ms) aT3 (0 + nr + nm) cT3 (Rd.rowh hs (by repeat first | exact At.head _ _ | apply At.tail | apply At.app)) (by simp [hnr, hnr2]) (by omega) (fun k => pd_mem (fun y hy => (List.mem_append.1 hy).elim (hls _ y) (hls2 _ y)) k)) ?_
                rintro _ _ ⟨aB, cB, rfl, e⟩; obtain rfl := e.symm
                refine RL.p T ?_
                refine RL.p T ?_
                refine RL.p T ?_
                refine RL.p T ?_
                refine RL.p T ?_
                refine RL.nil _ _ _ _ ?_
                refine hK14 _ _ _ ?_
                refine SW.seq_k fun K15 hK15 => ?_
                refine SW.seq_k fun K16 hK16 => ?_
                refine SW.region _ _ _ _ ?_
                refine RL.p T ?_
                refine RL.p T ?_
                refine RL.p T ?_
                refine RL.p T ?_
                first | refine RL.ar ?_ | refine RL.p T ?_
                refine RL.p T ?_
                refine RL.nil _ _ _ _ ?_
                refine hK16 _ _ _ ?_
                refine SW.cs (fun hc3 => ?_) (fun hc3 => ?_)
                ·skip
                 first
                  | (exfalso; first | omega | contradiction | (clear hK16 K16; clear hK15 K15; clear hK14 K14; clear hK11 K11; clear hK10 K10; clear hK9 K9; clear hK8 K8; clear hK5 K5; clear hK4 K4; clear hK2 K2; clear hK1 K1; clear hK0 K0; simp at *; done))
                  | (
                   refine SW.seq_k fun K17 hK17 => ?_
                   have hbig := join_big (ps := ls ++ ms) (by rw [List.length_append]; omega) (by rw [mg_app, usedM_app]; omega)
                   refine SW.region _ _ _ _ ?_
                   refine RL.p T ?_
                   refine RL.p T ?_
                   refine RL.p T ?_
                   refine RL.nil _ _ _ _ ?_
                   refine hK17 _ _ _ ?_
                   refine SW.ret ?_
                   refine retQ.rr (H) ?_
                   clear hK17 K17 hK16 K16 hK15 K15 hK14 K14 hK11 K11 hK10 K10 hK9 K9 hK8 K8 hK5 K5 hK4 K4 hK2 K2 hK1 K1 hK0 K0
                   first
                     | exact ⟨rfl, rfl⟩
                     | exact ⟨boolE (decide_eq_true (by omega)), rfl⟩
                   )
                ·skip
                 first
                  | (exfalso; first | omega | contradiction | (clear hK16 K16; clear hK15 K15; clear hK14 K14; clear hK11 K11; clear hK10 K10; clear hK9 K9; clear hK8 K8; clear hK5 K5; clear hK4 K4; clear hK2 K2; clear hK1 K1; clear hK0 K0; simp at *; done))
                  | (
                   refine SW.skip ?_
                   refine hK15 _ _ _ ?_
                   refine SW.seq_k fun K18 hK18 => ?_
                   refine SW.seq_k fun K19 hK19 => ?_
                   have hu3 : usedM (mg (ls ++ ms)) ≤ 2048 := by rw [mg_app, usedM_app]; omega
                   have hJ3 := joinV_mg (l := ls ++ ms) (by rw [List.length_append]; omega) hu3
                   have hg3 : (joinV (ls ++ ms)).2 = 0 := by rw [hJ3]
                   refine SW.region _ _ _ _ ?_
                   refine RL.p T ?_
                   refine RL.p T ?_
                   refine RL.p T ?_
                   refine RL.sp 67 (fun hs2 => ?_) (fun hs2 => ?_)
                   ·skip
                    first
                     | (exfalso; first | omega | contradiction | (clear hK19 K19; clear hK18 K18; clear hK16 K16; clear hK15 K15; clear hK14 K14; clear hK11 K11; clear hK10 K10; clear hK9 K9; clear hK8 K8; clear hK5 K5; clear hK4 K4; clear hK2 K2; clear hK1 K1; clear hK0 K0; simp at *; done))
                     | (
                      refine RL.guard_no rfl rfl rfl ?_
                      refine RL.guard_no rfl rfl rfl ?_
                      refine RL.guard_no rfl rfl rfl ?_
                      refine RL.guard_no rfl rfl rfl ?_
                      refine RL.guard_no rfl rfl rfl ?_
                      refine RL.guard_no rfl rfl rfl ?_
                      refine RL.guard_no rfl rfl rfl ?_
                      refine RL.guard_no rfl rfl rfl ?_
                      refine RL.p T ?_
                      refine RL.nil _ _ _ _ ?_
                      refine hK19 _ _ _ ?_
                      refine SW.cond_t rfl ?_
                      refine SW.seq_k fun K20 hK20 => ?_
                      refine SW.region _ _ _ _ ?_
                      refine RL.p T ?_
                      refine RL.nil _ _ _ _ ?_
                      refine hK20 _ _ _ ?_
                      refine SW.ret ?_
                      refine retQ.rr (H) ?_
                      clear hK20 K20 hK19 K19 hK18 K18 hK16 K16 hK15 K15 hK14 K14 hK11 K11 hK10 K10 hK9 K9 hK8 K8 hK5 K5 hK4 K4 hK2 K2 hK1 K1 hK0 K0
                      first
                        | exact ⟨rfl, rfl⟩
                        | exact ⟨boolE (decide_eq_true (by omega)), rfl⟩
                      )
                   ·skip
                    first
                     | (exfalso; first | omega | contradiction | (clear hK19 K19; clear hK18 K18; clear hK16 K16; clear hK15 K15; clear hK14 K14; clear hK11 K11; clear hK10 K10; clear hK9 K9; clear hK8 K8; clear hK5 K5; clear hK4 K4; clear hK2 K2; clear hK1 K1; clear hK0 K0; simp at *; done))
                     | (
                      refine RL.p T ?_
                      refine RL.bs T rfl rfl rfl (by exact (rfl : _ = some [])) (fun b69_1 => ?_)
                      refine RL.p T ?_
                      refine RL.apI (ki := .u8) (xs := []) (ys := (joinV ls).1) T (fun a7_ c7_ => ?_) (hR := fun hs => Rd.rowh hs (by repeat first | exact At.head _ _ | apply At.tail | apply At.app))
                      refine RL.p T ?_
                      refine RL.apI (ki := .u8) (xs := [] ++ (joinV ls).1) (ys := (joinV ms).1) T (fun a8_ c8_ => ?_) (hR := fun hs => Rd.rowh hs (by repeat first | exact At.head _ _ | apply At.tail | apply At.app))
                      refine RL.c fun16 (fun hs => sameB aB a8_ _ cB _ c8_ (joinV (ls ++ ms)).1 ((joinV ls).1 ++ (joinV ms).1) (Rd.rowh hs (by repeat first | exact At.head _ _ | apply At.tail | apply At.app)) (Rd.rowh hs (by repeat first | exact At.head _ _ | apply At.tail | apply At.app)) rfl (by rw [List.length_append]; omega) (by rw [hJ3]; show (joinB (mg (ls ++ ms))).length ≤ _; rw [joinB_len]; omega) (by omega) (by rw [hJ3, hJ, hJ2, mg_app, joinB_app])) ?_
                      rintro _ _ ⟨rfl, e⟩; obtain rfl := e.symm
                      refine RL.p T ?_
                      refine RL.p T ?_
                      refine RL.nil _ _ _ _ ?_
                      refine hK19 _ _ _ ?_
                      refine SW.cs (fun hc4 => ?_) (fun hc4 => ?_)
                      ·skip
                       first
                        | (exfalso; first | omega | contradiction | (clear hK19 K19; clear hK18 K18; clear hK16 K16; clear hK15 K15; clear hK14 K14; clear hK11 K11; clear hK10 K10; clear hK9 K9; clear hK8 K8; clear hK5 K5; clear hK4 K4; clear hK2 K2; clear hK1 K1; clear hK0 K0; simp at *; done))
                        | (
                         refine SW.seq_k fun K21 hK21 => ?_
                         refine SW.region _ _ _ _ ?_
                         refine RL.p T ?_
                         refine RL.nil _ _ _ _ ?_
                         refine hK21 _ _ _ ?_
                         refine SW.ret ?_
                         refine retQ.rr (H) ?_
                         clear hK21 K21 hK19 K19 hK18 K18 hK16 K16 hK15 K15 hK14 K14 hK11 K11 hK10 K10 hK9 K9 hK8 K8 hK5 K5 hK4 K4 hK2 K2 hK1 K1 hK0 K0
                         first
                           | exact ⟨rfl, rfl⟩
                           | exact ⟨boolE (decide_eq_true (by omega)), rfl⟩
                         )
                      ·skip
                       first
                        | (exfalso; first | omega | contradiction | (clear hK19 K19; clear hK18 K18; clear hK16 K16; clear hK15 K15; clear hK14 K14; clear hK11 K11; clear hK10 K10; clear hK9 K9; clear hK8 K8; clear hK5 K5; clear hK4 K4; clear hK2 K2; clear hK1 K1; clear hK0 K0; simp at *; done))
                        | (
                         refine SW.skip ?_
                         refine hK18 _ _ _ ?_
                         refine SW.seq_k fun K22 hK22 => ?_
                         have hL0 : 0 < (joinV ls).1.length := by omega
                         have hm0 : 0 ≤ z % (((joinV ls).1.length : Nat) : Int) := Int.emod_nonneg _ (by omega)
                         have hm1 : z % (((joinV ls).1.length : Nat) : Int) < (((joinV ls).1.length : Nat) : Int) := Int.emod_lt_of_pos _ (by omega)
                         obtain ⟨kk, hkk⟩ : ∃ kk : Nat, z % (((joinV ls).1.length : Nat) : Int) = (kk : Int) := ⟨_, (Int.toNat_of_nonneg hm0).symm⟩
                         refine SW.region _ _ _ _ ?_
                         refine RL.p T ?_
                         first | refine RL.cv T ?_ | refine RL.p T ?_ | refine RL.ts T ?_
                         refine RL.p T ?_
                         refine RL.p T ?_
                         first | refine RL.q (QV.remP rfl rfl rfl (by omega) (by omega)) ?_ | refine RL.q (QV.rem rfl rfl rfl (by omega) rfl) ?_
                         refine RL.p T ?_
                         refine RL.nil _ _ _ _ ?_
                         refine hK22 _ _ _ ?_
                         refine SW.seq_k fun K23 hK23 => ?_
                         rw [hkk] at hm1 ⊢
                         have hkl : kk < (joinV ls).1.length := by omega
                         refine SW.region _ _ _ _ ?_
                         refine RL.p T ?_
                         refine RL.p T ?_
                         refine RL.sl T ?_ (h1 := kk) (hR := fun hs => Rd.rowh hs (by repeat first | exact At.head _ _ | apply At.tail | apply At.app))
                         rw [subA_zero, Nat.sub_zero, Nat.sub_zero]
                         refine RL.c fun12 (fun hs => split aJ kk cJ ((joinV ls).1.take kk) ((Rd.rowh hs (by repeat first | exact At.head _ _ | apply At.tail | apply At.app) : Rd w0 _ aJ (joinV ls).1.length cJ 1 ((joinV ls).1.map (.int .u8))).tk kk (by omega)) (by rw [List.length_take]; omega) (by omega) (fun x hx => by rw [hJ] at hx; exact joinB_byte (hls H) hu x (List.mem_of_mem_take hx))) ?_
                         rintro _ _ ⟨D5, a5, c5, qs, rfl, e, hqs, hqo⟩; obtain rfl := e.symm
                         refine RL.p T ?_
                         refine RL.p T ?_
                         refine RL.p T ?_
                         refine RL.p T ?_
                         refine RL.p T ?_
                         refine RL.nil _ _ _ _ ?_
                         refine hK23 _ _ _ ?_
                         refine SW.seq_k fun K24 hK24 => ?_
                         refine SW.region _ _ _ _ ?_
                         refine RL.p T ?_
                         refine RL.nil _ _ _ _ ?_
                         refine hK24 _ _ _ ?_
                         refine SW.seq_k fun K25 hK25 => ?_
                         refine SW.seq_k fun K26 hK26 => ?_
                         refine SW.wk (.row a5 qs.length c5 38 2 (List.flatMap PdC qs) :: (D5 ++ H)) ?_
                         have hqc : qs.length ≤ 4000000 := by
                           by_cases he0 : (splitV ((joinV ls).1.take kk)).2 = 0
                           · have hby : Byte ((joinV ls).1.take kk) := fun x hx => by rw [hJ] at hx; exact joinB_byte (hls H) hu x (List.mem_of_mem_take hx)
                             have := (split_joined hby he0).2.2.1
                             rw [← hqs] at this; have h2 := usedM_len (mg qs); rw [mg_len] at h2; omega
                           · have := split_err he0; rw [← hqs, mg_nil] at this; rw [this]; simp
                         refine SW.region _ _ _ _ ?_
                         refine RL.p T ?_
                         refine RL.p T ?_
                         refine RL.p T ?_
                         refine RL.nil _ _ _ _ ?_
                         refine hK26 _ _ _ ?_
                         refine SW.block ?_
                         refine SW.loopM (fun frB mm fr ds HH => ∃ (k : Nat) , mm = nr - k ∧ (k ≤ nr ∧ (∀ i, i < k → usedM (mg (ls.take i)) ≠ kk)) ∧ FrIs [6, 16, 17, 18, 19, 20, 91, 92, 93, 94, 95, 96, 97, 98, 99, 100, 101, 102, 103, 104, 105, 106, 107, 108, 109, 110, 111, 112, 113, 114, 115, 116, 117, 118, 119, 120, 121, 122, 123, 124, 125] frB fr [(91, .int .i64 k), (16, .int .i64 ((usedM (mg (ls.take k)) : Nat) : Int))] ∧ ds = [] ∧ HH = (.row a5 qs.length c5 38 2 (List.flatMap PdC qs) :: (D5 ++ H))) (n := nr - 0) ?_ ?_
                         ·exact ⟨0, rfl, ⟨Nat.zero_le _, (fun i h => by omega)⟩, (.cons rfl (.consI rfl (by first | omega | rfl) (.nil (by repeat first | with_reducible exact Mx.refl | with_reducible exact Mx.mix | refine Mx.put rfl ?_ | refine Mx.upd rfl ?_ | refine Mx.updl rfl ?_ | refine Mx.fin rfl ?_ | refine Mx.inner rfl ?_ | refine Mx.none ?_ | exact Mx.refl | exact Mx.mix)))), rfl, rfl⟩
                         ·rintro mm fr ds HH ⟨k, rfl, ⟨hk, hnb⟩, hFr, rfl, eHH⟩
                          obtain rfl := eHH.symm
                          obtain ⟨frU, rfl⟩ := hFr.eq
                          clear hFr
                          have hst : k < ls.length → _ := fun h => usedM_take h
                          have hwk : k < ls.length → _ := fun h => wk_getD h
                          have hlt := usedM_take_le ls k
                          refine SW.seq_k fun K27 hK27 => ?_
                          refine SW.region _ _ _ _ ?_
                          refine RL.p T ?_
                          refine RL.nil _ _ _ _ ?_
                          refine hK27 _ _ _ ?_
                          refine SW.seq_k fun K28 hK28 => ?_
                          refine SW.cs (fun hc5 => ?_) (fun hc5 => ?_)
                          ·skip
                           first
                            | (exfalso; first | omega | contradiction | (clear hK28 K28; clear hK27 K27; clear hK26 K26; clear hK25 K25; clear hK24 K24; clear hK23 K23; clear hK22 K22; clear hK19 K19; clear hK18 K18; clear hK16 K16; clear hK15 K15; clear hK14 K14; clear hK11 K11; clear hK10 K10; clear hK9 K9; clear hK8 K8; clear hK5 K5; clear hK4 K4; clear hK2 K2; clear hK1 K1; clear hK0 K0; simp at *; done))
                            | (
                             refine SW.skip ?_
                             refine hK28 _ _ _ ?_
                             refine SW.seq_k fun K29 hK29 => ?_
                             refine SW.block ?_
                             refine SW.seq_k fun K30 hK30 => ?_
                             refine SW.region _ _ _ _ ?_
                             refine RL.p T ?_
                             refine RL.ix T ?_ (hR := fun hs => (hB _))
                             refine RL.leN T ?_ (hR := fun hs => (hB _)) (hvs := (by exact (rfl : _ = [_, _])))
                             refine RL.s ?_
                             refine NV.alloc T rfl rfl rfl (by exact (rfl : _ = [_, _])) ?_
                             intro b18_2
                             refine RL.p T ?_
                             refine RL.s ?_
                             refine NV.sN T rfl rfl rfl (by exact (rfl : _ = [_, _])) (by exact (rfl : _ = [_, _])) ?_
                             refine RL.nil _ _ _ _ ?_
                             refine hK30 _ _ _ ?_
                             refine SW.seq_k fun K31 hK31 => ?_
                             refine SW.seq_k fun K32 hK32 => ?_
                             refine SW.region _ _ _ _ ?_
                             refine RL.p T ?_
                             refine RL.p T ?_
                             refine RL.p T ?_
                             refine RL.nil _ _ _ _ ?_
                             refine hK32 _ _ _ ?_
                             refine SW.cs (fun hc6 => ?_) (fun hc6 => ?_)
                             ·skip
                              first
                               | (exfalso; first | omega | contradiction | (clear hK32 K32; clear hK31 K31; clear hK30 K30; clear hK29 K29; clear hK28 K28; clear hK27 K27; clear hK26 K26; clear hK25 K25; clear hK24 K24; clear hK23 K23; clear hK22 K22; clear hK19 K19; clear hK18 K18; clear hK16 K16; clear hK15 K15; clear hK14 K14; clear hK11 K11; clear hK10 K10; clear hK9 K9; clear hK8 K8; clear hK5 K5; clear hK4 K4; clear hK2 K2; clear hK1 K1; clear hK0 K0; simp at *; done))
                               | (
                                refine SW.seq_k fun K33 hK33 => ?_
                                have hkt : usedM (mg (ls.take k)) = kk := by omega
                                have hsp : (kk = 0 → (splitV ((joinV ls).1.take kk)).2 = 9) ∧ (kk ≠ 0 → splitV ((joinV ls).1.take kk) = (mg (ls.take k), 0)) := by
                                  constructor
                                  · intro h0; rw [h0]; rfl
                                  · intro h0
                                    rw [hJ, ← hkt, mg_take]
                                    exact split_at hmk hu (by rw [← mg_take, hkt]; omega)
                                have hsp1 := hsp.1
                                have hsp2 : kk ≠ 0 → (splitV ((joinV ls).1.take kk)).2 = 0 := fun h => by rw [hsp.2 h]
                                refine SW.draw [(99, 0), (100, 1), (101, 2), (102, 3), (103, 4), (104, 5), (105, 6), (106, 7), (107, 8), (108, 9), (109, 10), (110, 11), (111, 12), (112, 13), (113, 14), (114, 15), (115, 16), (116, 17), (6, 18)] [[], [0], [1, 0], [2, 1, 0], [3, 2, 1, 0], [2, 1, 0, 4, 3], [5, 2, 1, 0, 4, 3], [6, 5, 2, 1, 0, 4, 3], [7, 6, 5, 2, 1, 0, 4, 3], [8, 7, 6, 5, 2, 1, 0, 4, 3], [9, 8, 7, 6, 5, 2, 1, 0, 4, 3], [10, 9, 8, 7, 6, 5, 2, 1, 0, 4, 3], [9, 8, 7, 6, 5, 2, 1, 0, 4, 3], [9, 8, 7, 6, 5, 2, 1, 0, 4, 3], [12, 9, 8, 7, 6, 5, 2, 1, 0, 4, 3, 13], [11, 10, 9, 8, 7, 6, 5, 2, 1, 0, 4, 3, 14, 12, 13], [9, 8, 7, 6, 5, 2, 1, 0, 4, 3, 15, 11, 10, 14, 12, 13], [6, 5, 2, 1, 0, 4, 3, 16, 9, 8, 7, 15, 11, 10, 14, 12, 13], [17, 6, 5, 2, 1, 0, 4, 3, 16, 9, 8, 7, 15, 11, 10, 14, 12, 13]] mixed (by kernel_rfl) (by kernel_rfl) ?_
                                refine RD.p T ?_
                                refine RD.p T ?_
                                refine RD.p T ?_
                                refine RD.split 2 rfl (fun hs3 => ?_) (fun hs3 => ?_)
                                ·try simp only [decide_eq_true_eq, decide_eq_false_iff_not, Bool.not_eq_true', Bool.not_eq_false', Int.not_lt, Int.not_le, Int.toNat_natCast] at hs3
                                 first
                                  | (exfalso; first | omega | contradiction | (clear hK33 K33; clear hK32 K32; clear hK31 K31; clear hK30 K30; clear hK29 K29; clear hK28 K28; clear hK27 K27; clear hK26 K26; clear hK25 K25; clear hK24 K24; clear hK23 K23; clear hK22 K22; clear hK19 K19; clear hK18 K18; clear hK16 K16; clear hK15 K15; clear hK14 K14; clear hK11 K11; clear hK10 K10; clear hK9 K9; clear hK8 K8; clear hK5 K5; clear hK4 K4; clear hK2 K2; clear hK1 K1; clear hK0 K0; simp at *; done))
                                  | (
                                   refine RD.p T ?_
                                   refine RD.p T ?_
                                   refine RD.p T ?_
                                   refine RD.p T ?_
                                   refine RD.split 6 rfl (fun hs4 => ?_) (fun hs4 => ?_)
                                   ·try simp only [decide_eq_true_eq, decide_eq_false_iff_not, Bool.not_eq_true', Bool.not_eq_false', Int.not_lt, Int.not_le, Int.toNat_natCast] at hs4
                                    first
                                     | (exfalso; first | omega | contradiction | (clear hK33 K33; clear hK32 K32; clear hK31 K31; clear hK30 K30; clear hK29 K29; clear hK28 K28; clear hK27 K27; clear hK26 K26; clear hK25 K25; clear hK24 K24; clear hK23 K23; clear hK22 K22; clear hK19 K19; clear hK18 K18; clear hK16 K16; clear hK15 K15; clear hK14 K14; clear hK11 K11; clear hK10 K10; clear hK9 K9; clear hK8 K8; clear hK5 K5; clear hK4 K4; clear hK2 K2; clear hK1 K1; clear hK0 K0; simp at *; done))
                                     | (
                                      refine RD.skip rfl rfl rfl rfl ?_
                                      refine RD.skip rfl rfl rfl rfl ?_
                                      refine RD.skip rfl rfl rfl rfl ?_
                                      refine RD.skip rfl rfl rfl rfl ?_
                                      refine RD.skip rfl rfl rfl rfl ?_
                                      refine RD.skip rfl rfl rfl rfl ?_
                                      refine RD.skip rfl rfl rfl rfl ?_
                                      refine RD.skipN rfl rfl rfl rfl rfl (Stab.skip rfl rfl rfl rfl (Stab.skip rfl rfl rfl rfl (Stab.skip rfl rfl rfl rfl Stab.nil))) ?_
                                      refine RD.skipN rfl rfl rfl rfl rfl Stab.nil ?_
                                      refine RD.skip rfl rfl rfl rfl ?_
                                      refine RD.p T ?_
                                      refine RD.p T ?_
                                      refine RD.k rfl rfl ?_
                                      refine hK33 _ _ _ ?_
                                      refine SW.ret ?_
                                      refine retQ.rr (H) ?_
                                      clear hK33 K33 hK32 K32 hK31 K31 hK30 K30 hK29 K29 hK28 K28 hK27 K27 hK26 K26 hK25 K25 hK24 K24 hK23 K23 hK22 K22 hK19 K19 hK18 K18 hK16 K16 hK15 K15 hK14 K14 hK11 K11 hK10 K10 hK9 K9 hK8 K8 hK5 K5 hK4 K4 hK2 K2 hK1 K1 hK0 K0
                                      first
                                        | exact ⟨rfl, rfl⟩
                                        | exact ⟨boolE (decide_eq_true (by omega)), rfl⟩
                                      )
                                   ·try simp only [decide_eq_true_eq, decide_eq_false_iff_not, Bool.not_eq_true', Bool.not_eq_false', Int.not_lt, Int.not_le, Int.toNat_natCast] at hs4
                                    first
                                     | (exfalso; first | omega | contradiction | (clear hK33 K33; clear hK32 K32; clear hK31 K31; clear hK30 K30; clear hK29 K29; clear hK28 K28; clear hK27 K27; clear hK26 K26; clear hK25 K25; clear hK24 K24; clear hK23 K23; clear hK22 K22; clear hK19 K19; clear hK18 K18; clear hK16 K16; clear hK15 K15; clear hK14 K14; clear hK11 K11; clear hK10 K10; clear hK9 K9; clear hK8 K8; clear hK5 K5; clear hK4 K4; clear hK2 K2; clear hK1 K1; clear hK0 K0; simp at *; done))
                                     | (
                                      refine RD.p T ?_
                                      refine RD.p T ?_
                                      refine RD.p T ?_
                                      refine RD.split 9 rfl (fun hs5 => ?_) (fun hs5 => ?_)
                                      ·try simp only [decide_eq_true_eq, decide_eq_false_iff_not, Bool.not_eq_true', Bool.not_eq_false', Int.not_lt, Int.not_le, Int.toNat_natCast] at hs5
                                       first
                                        | (exfalso; first | omega | contradiction | (clear hK33 K33; clear hK32 K32; clear hK31 K31; clear hK30 K30; clear hK29 K29; clear hK28 K28; clear hK27 K27; clear hK26 K26; clear hK25 K25; clear hK24 K24; clear hK23 K23; clear hK22 K22; clear hK19 K19; clear hK18 K18; clear hK16 K16; clear hK15 K15; clear hK14 K14; clear hK11 K11; clear hK10 K10; clear hK9 K9; clear hK8 K8; clear hK5 K5; clear hK4 K4; clear hK2 K2; clear hK1 K1; clear hK0 K0; simp at *; done))
                                        | (
                                         refine RD.p T ?_
                                         refine RD.p T ?_
                                         refine RD.p T ?_
                                         refine RD.q rfl rfl (Gd.yes rfl rfl) (QV.sl T (l1 := 0) (h1 := k)) ?_
                                         refine RD.nv rfl rfl rfl (Gd.yes rfl rfl) ?_
                                         refine NV.sat (fun hs => ?_) (fun c hc => by cases hc)
                                         refine NV.call rfl rfl rfl fun15 rfl rfl (pfrom qs a5 qs.length c5 (Rd.rowh hs (by repeat first | exact At.head _ _ | apply At.tail | apply At.app)) rfl (by omega) (fun k => (pd_mem hqo k).sub SubL.by)) ?_
                                         rintro _ _ ⟨a9, c9, rfl, e⟩; obtain rfl := e.symm
                                         refine ⟨(Stab.cons rfl (Gd.yes rfl rfl) (QV.sl T (l1 := 0) (h1 := k)) (Stab.cons rfl (Gd.yes rfl rfl) (pev_sound T rfl) (Stab.cons rfl (Gd.yes rfl rfl) (pev_sound T rfl) Stab.nil))), ?_⟩
                                         refine RD.nv rfl rfl rfl (Gd.yes rfl rfl) ?_
                                         refine NV.sat (fun hs => ?_) (fun c hc => by cases hc)
                                         refine NV.call rfl rfl rfl fun14 rfl rfl (samePT qs a9 qs.length c9 (Rd.rowh hs (by repeat first | exact At.head _ _ | apply At.tail | apply At.app)) rfl (fun y hy => (hqo y hy).sub SubL.by) (ls.take k) _ _ _ (take_rd (hB _) (by omega)) (by rw [List.length_take]; omega) (fun y hy => hls _ y (List.mem_of_mem_take hy)) (by omega) (by rw [hqs, hsp.2 (by omega)])) ?_
                                         rintro _ _ ⟨rfl, e⟩; obtain rfl := e.symm
                                         refine ⟨Stab.nil, ?_⟩
                                         refine RD.p T ?_
                                         refine RD.p T ?_
                                         refine RD.p T ?_
                                         refine RD.k rfl rfl ?_
                                         refine hK33 _ _ _ ?_
                                         refine SW.ret ?_
                                         refine retQ.rr (H) ?_
                                         clear hK33 K33 hK32 K32 hK31 K31 hK30 K30 hK29 K29 hK28 K28 hK27 K27 hK26 K26 hK25 K25 hK24 K24 hK23 K23 hK22 K22 hK19 K19 hK18 K18 hK16 K16 hK15 K15 hK14 K14 hK11 K11 hK10 K10 hK9 K9 hK8 K8 hK5 K5 hK4 K4 hK2 K2 hK1 K1 hK0 K0
                                         first
                                           | exact ⟨rfl, rfl⟩
                                           | exact ⟨boolE (decide_eq_true (by omega)), rfl⟩
                                         )
                                      ·try simp only [decide_eq_true_eq, decide_eq_false_iff_not, Bool.not_eq_true', Bool.not_eq_false', Int.not_lt, Int.not_le, Int.toNat_natCast] at hs5
                                       first
                                        | (exfalso; first | omega | contradiction | (clear hK33 K33; clear hK32 K32; clear hK31 K31; clear hK30 K30; clear hK29 K29; clear hK28 K28; clear hK27 K27; clear hK26 K26; clear hK25 K25; clear hK24 K24; clear hK23 K23; clear hK22 K22; clear hK19 K19; clear hK18 K18; clear hK16 K16; clear hK15 K15; clear hK14 K14; clear hK11 K11; clear hK10 K10; clear hK9 K9; clear hK8 K8; clear hK5 K5; clear hK4 K4; clear hK2 K2; clear hK1 K1; clear hK0 K0; simp at *; done))
                                        | (
                                         refine RD.skip rfl rfl rfl rfl ?_
                                         refine RD.skip rfl rfl rfl rfl ?_
                                         refine RD.skip rfl rfl rfl rfl ?_
                                         refine RD.skip rfl rfl rfl rfl ?_
                                         refine RD.skipN rfl rfl rfl rfl rfl (Stab.skip rfl rfl rfl rfl (Stab.skip rfl rfl rfl rfl (Stab.skip rfl rfl rfl rfl Stab.nil))) ?_
                                         refine RD.skipN rfl rfl rfl rfl rfl Stab.nil ?_
                                         refine RD.p T ?_
                                         refine RD.p T ?_
                                         refine RD.p T ?_
                                         refine RD.k rfl rfl ?_
                                         refine hK33 _ _ _ ?_
                                         refine SW.ret ?_
                                         refine retQ.rr (H) ?_
                                         clear hK33 K33 hK32 K32 hK31 K31 hK30 K30 hK29 K29 hK28 K28 hK27 K27 hK26 K26 hK25 K25 hK24 K24 hK23 K23 hK22 K22 hK19 K19 hK18 K18 hK16 K16 hK15 K15 hK14 K14 hK11 K11 hK10 K10 hK9 K9 hK8 K8 hK5 K5 hK4 K4 hK2 K2 hK1 K1 hK0 K0
                                         first
                                           | exact ⟨rfl, rfl⟩
                                           | exact ⟨boolE (decide_eq_true (by omega)), rfl⟩
                                         )
                                      )
                                   )
                                ·try simp only [decide_eq_true_eq, decide_eq_false_iff_not, Bool.not_eq_true', Bool.not_eq_false', Int.not_lt, Int.not_le, Int.toNat_natCast] at hs3
                                 first
                                  | (exfalso; first | omega | contradiction | (clear hK33 K33; clear hK32 K32; clear hK31 K31; clear hK30 K30; clear hK29 K29; clear hK28 K28; clear hK27 K27; clear hK26 K26; clear hK25 K25; clear hK24 K24; clear hK23 K23; clear hK22 K22; clear hK19 K19; clear hK18 K18; clear hK16 K16; clear hK15 K15; clear hK14 K14; clear hK11 K11; clear hK10 K10; clear hK9 K9; clear hK8 K8; clear hK5 K5; clear hK4 K4; clear hK2 K2; clear hK1 K1; clear hK0 K0; simp at *; done))
                                  | (
                                   refine RD.skip rfl rfl rfl rfl ?_
                                   refine RD.skip rfl rfl rfl rfl ?_
                                   refine RD.p T ?_
                                   refine RD.p T ?_
                                   refine RD.p T ?_
                                   refine RD.p T ?_
                                   refine RD.p T ?_
                                   refine RD.split 9 rfl (fun hs6 => ?_) (fun hs6 => ?_)
                                   ·try simp only [decide_eq_true_eq, decide_eq_false_iff_not, Bool.not_eq_true', Bool.not_eq_false', Int.not_lt, Int.not_le, Int.toNat_natCast] at hs6
                                    first
                                     | (exfalso; first | omega | contradiction | (clear hK33 K33; clear hK32 K32; clear hK31 K31; clear hK30 K30; clear hK29 K29; clear hK28 K28; clear hK27 K27; clear hK26 K26; clear hK25 K25; clear hK24 K24; clear hK23 K23; clear hK22 K22; clear hK19 K19; clear hK18 K18; clear hK16 K16; clear hK15 K15; clear hK14 K14; clear hK11 K11; clear hK10 K10; clear hK9 K9; clear hK8 K8; clear hK5 K5; clear hK4 K4; clear hK2 K2; clear hK1 K1; clear hK0 K0; simp at *; done))
                                     | (
                                      refine RD.p T ?_
                                      refine RD.p T ?_
                                      refine RD.p T ?_
                                      refine RD.q rfl rfl (Gd.yes rfl rfl) (QV.sl T (l1 := 0) (h1 := k)) ?_
                                      refine RD.nv rfl rfl rfl (Gd.yes rfl rfl) ?_
                                      refine NV.sat (fun hs => ?_) (fun c hc => by cases hc)
                                      refine NV.call rfl rfl rfl fun15 rfl rfl (pfrom qs a5 qs.length c5 (Rd.rowh hs (by repeat first | exact At.head _ _ | apply At.tail | apply At.app)) rfl (by omega) (fun k => (pd_mem hqo k).sub SubL.by)) ?_
                                      rintro _ _ ⟨a9, c9, rfl, e⟩; obtain rfl := e.symm
                                      refine ⟨(Stab.cons rfl (Gd.yes rfl rfl) (QV.sl T (l1 := 0) (h1 := k)) (Stab.cons rfl (Gd.yes rfl rfl) (pev_sound T rfl) (Stab.cons rfl (Gd.yes rfl rfl) (pev_sound T rfl) Stab.nil))), ?_⟩
                                      refine RD.nv rfl rfl rfl (Gd.yes rfl rfl) ?_
                                      refine NV.sat (fun hs => ?_) (fun c hc => by cases hc)
                                      refine NV.call rfl rfl rfl fun14 rfl rfl (samePT qs a9 qs.length c9 (Rd.rowh hs (by repeat first | exact At.head _ _ | apply At.tail | apply At.app)) rfl (fun y hy => (hqo y hy).sub SubL.by) (ls.take k) _ _ _ (take_rd (hB _) (by omega)) (by rw [List.length_take]; omega) (fun y hy => hls _ y (List.mem_of_mem_take hy)) (by omega) (by rw [hqs, hsp.2 (by omega)])) ?_
                                      rintro _ _ ⟨rfl, e⟩; obtain rfl := e.symm
                                      refine ⟨Stab.nil, ?_⟩
                                      refine RD.p T ?_
                                      refine RD.p T ?_
                                      refine RD.p T ?_
                                      refine RD.k rfl rfl ?_
                                      refine hK33 _ _ _ ?_
                                      refine SW.ret ?_
                                      refine retQ.rr (H) ?_
                                      clear hK33 K33 hK32 K32 hK31 K31 hK30 K30 hK29 K29 hK28 K28 hK27 K27 hK26 K26 hK25 K25 hK24 K24 hK23 K23 hK22 K22 hK19 K19 hK18 K18 hK16 K16 hK15 K15 hK14 K14 hK11 K11 hK10 K10 hK9 K9 hK8 K8 hK5 K5 hK4 K4 hK2 K2 hK1 K1 hK0 K0
                                      first
                                        | exact ⟨rfl, rfl⟩
                                        | exact ⟨boolE (decide_eq_true (by omega)), rfl⟩
                                      )
                                   ·try simp only [decide_eq_true_eq, decide_eq_false_iff_not, Bool.not_eq_true', Bool.not_eq_false', Int.not_lt, Int.not_le, Int.toNat_natCast] at hs6
                                    first
                                     | (exfalso; first | omega | contradiction | (clear hK33 K33; clear hK32 K32; clear hK31 K31; clear hK30 K30; clear hK29 K29; clear hK28 K28; clear hK27 K27; clear hK26 K26; clear hK25 K25; clear hK24 K24; clear hK23 K23; clear hK22 K22; clear hK19 K19; clear hK18 K18; clear hK16 K16; clear hK15 K15; clear hK14 K14; clear hK11 K11; clear hK10 K10; clear hK9 K9; clear hK8 K8; clear hK5 K5; clear hK4 K4; clear hK2 K2; clear hK1 K1; clear hK0 K0; simp at *; done))
                                     | (
                                      refine RD.skip rfl rfl rfl rfl ?_
                                      refine RD.skip rfl rfl rfl rfl ?_
                                      refine RD.skip rfl rfl rfl rfl ?_
                                      refine RD.skip rfl rfl rfl rfl ?_
                                      refine RD.skipN rfl rfl rfl rfl rfl (Stab.skip rfl rfl rfl rfl (Stab.skip rfl rfl rfl rfl (Stab.skip rfl rfl rfl rfl Stab.nil))) ?_
                                      refine RD.skipN rfl rfl rfl rfl rfl Stab.nil ?_
                                      refine RD.p T ?_
                                      refine RD.p T ?_
                                      refine RD.p T ?_
                                      refine RD.k rfl rfl ?_
                                      refine hK33 _ _ _ ?_
                                      refine SW.ret ?_
                                      refine retQ.rr (H) ?_
                                      clear hK33 K33 hK32 K32 hK31 K31 hK30 K30 hK29 K29 hK28 K28 hK27 K27 hK26 K26 hK25 K25 hK24 K24 hK23 K23 hK22 K22 hK19 K19 hK18 K18 hK16 K16 hK15 K15 hK14 K14 hK11 K11 hK10 K10 hK9 K9 hK8 K8 hK5 K5 hK4 K4 hK2 K2 hK1 K1 hK0 K0
                                      first
                                        | exact ⟨rfl, rfl⟩
                                        | exact ⟨boolE (decide_eq_true (by omega)), rfl⟩
                                      )
                                   )
                                )
                             ·skip
                              first
                               | (exfalso; first | omega | contradiction | (clear hK32 K32; clear hK31 K31; clear hK30 K30; clear hK29 K29; clear hK28 K28; clear hK27 K27; clear hK26 K26; clear hK25 K25; clear hK24 K24; clear hK23 K23; clear hK22 K22; clear hK19 K19; clear hK18 K18; clear hK16 K16; clear hK15 K15; clear hK14 K14; clear hK11 K11; clear hK10 K10; clear hK9 K9; clear hK8 K8; clear hK5 K5; clear hK4 K4; clear hK2 K2; clear hK1 K1; clear hK0 K0; simp at *; done))
                               | (
                                refine SW.skip ?_
                                refine hK31 _ _ _ ?_
                                refine SW.seq_k fun K34 hK34 => ?_
                                refine SW.region _ _ _ _ ?_
                                refine RL.q (QV.vN T rfl rfl rfl rfl rfl (by exact (rfl : _ = [_, _]))) ?_
                                refine RL.c fun13 (fun hs => psizeO (ls.getD k default) (pd_mem (hls _) k) (by omega)) ?_
                                rintro _ _ ⟨rfl, e⟩; obtain rfl := e.symm
                                refine RL.p T ?_
                                refine RL.p T ?_
                                refine RL.p T ?_
                                refine RL.p T ?_
                                refine RL.p T ?_
                                refine RL.nil _ _ _ _ ?_
                                refine hK34 _ _ _ ?_
                                refine SW.region _ _ _ _ ?_
                                refine RL.p T ?_
                                refine RL.p T ?_
                                first | refine RL.ar ?_ | refine RL.p T ?_
                                refine RL.p T ?_
                                refine RL.nil _ _ _ _ ?_
                                refine hK29 _ _ _ ?_
                                refine SW.region _ _ _ _ ?_
                                first | refine RL.ar ?_ | refine RL.p T ?_
                                refine RL.p T ?_
                                refine RL.drop ?_
                                refine RL.nil _ _ _ _ ?_
                                exact ⟨nr - (k + 1), (by omega), k + 1, (by rfl), ⟨by omega, (fun i h => by
                                      rcases Nat.lt_or_ge i k with h3 | h3
                                      · exact hnb i h3
                                      · obtain rfl : i = k := by omega
                                        omega)⟩, (.cons rfl (.consI rfl (by first | omega | rfl) (.nil (by repeat first | with_reducible exact Mx.refl | with_reducible exact Mx.mix | refine Mx.put rfl ?_ | refine Mx.upd rfl ?_ | refine Mx.updl rfl ?_ | refine Mx.fin rfl ?_ | refine Mx.inner rfl ?_ | refine Mx.none ?_ | exact Mx.refl | exact Mx.mix)))), rfl, rfl⟩
                                )
                             )
                          ·skip
                           first
                            | (exfalso; first | omega | contradiction | (clear hK28 K28; clear hK27 K27; clear hK26 K26; clear hK25 K25; clear hK24 K24; clear hK23 K23; clear hK22 K22; clear hK19 K19; clear hK18 K18; clear hK16 K16; clear hK15 K15; clear hK14 K14; clear hK11 K11; clear hK10 K10; clear hK9 K9; clear hK8 K8; clear hK5 K5; clear hK4 K4; clear hK2 K2; clear hK1 K1; clear hK0 K0; simp at *; done))
                            | (
                             refine SW.exit ?_
                             refine hK25 _ _ _ ?_
                             refine SW.seq_k fun K35 hK35 => ?_
                             have hcut : splitV ((joinV ls).1.take kk) = ([], 3) := by
                               rw [hJ]
                               refine split_cut hmk hu (by omega) (fun i hi => ?_)
                               rw [← mg_take]; rw [mg_len] at hi
                               exact hnb i (by omega)
                             have hc2 : (splitV ((joinV ls).1.take kk)).2 = 3 := by rw [hcut]
                             refine SW.region _ _ _ _ ?_
                             refine RL.p T ?_
                             refine RL.p T ?_
                             refine RL.p T ?_
                             refine RL.nil _ _ _ _ ?_
                             refine hK35 _ _ _ ?_
                             refine SW.ret ?_
                             refine retQ.rr (H) ?_
                             clear hK35 K35 hK28 K28 hK27 K27 hK26 K26 hK25 K25 hK24 K24 hK23 K23 hK22 K22 hK19 K19 hK18 K18 hK16 K16 hK15 K15 hK14 K14 hK11 K11 hK10 K10 hK9 K9 hK8 K8 hK5 K5 hK4 K4 hK2 K2 hK1 K1 hK0 K0
                             first
                               | exact ⟨rfl, rfl⟩
                               | exact ⟨boolE (decide_eq_true (by omega)), rfl⟩
                             )
                         )
                      )
                   )
                )
             )
          )
       )
    )
end Go.Proofs.YthigfghfpmpiiaaDoor.M
