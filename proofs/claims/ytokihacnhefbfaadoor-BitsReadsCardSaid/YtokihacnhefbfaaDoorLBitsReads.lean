import Derived.Test.YtokihacnhefbfaaDoorProg
import Derived.Test.YtokihacnhefbfaaDoorLBitsTexts
import Derived.Test.YtokihacnhefbfaaDoorS34
import Derived.Test.YtokihacnhefbfaaDoorP1d
import Derived.Test.YtokihacnhefbfaaDoorLY01b
import Derived.Shelf.Small.Strs
set_option linter.unusedVariables false
set_option linter.unusedSimpArgs false
namespace Go.Proofs.YtokihacnhefbfaaDoor.M
open Go Go.Sep Go.Proofs
set_option maxRecDepth 10000
set_option maxHeartbeats 2000000
theorem fun6q : Fun Tryd.prog 6 := Fun.mk Tryd.func6 (by kernel_rfl) (by kernel_rfl)
theorem fun11q : Fun Tryd.prog 11 := Fun.mk Tryd.func11 (by kernel_rfl) (by kernel_rfl)
theorem fun12 : Fun Tryd.prog 12 := Fun.mk Tryd.func12 (by kernel_rfl) (by kernel_rfl)
theorem indexC {w0 : World} {H : List Chunk} (z : Int) (hz : 0 ≤ z ∧ z ≤ 255) : SC Tryd.prog w0 12 #[.string ⟨#[48, 49, 32]⟩, .int .u8 z] H (fun v H' => ∃ i, v = .int .i64 i ∧ (0 ≤ i ↔ z = 48 ∨ z = 49 ∨ z = 32) ∧ H' = H) := by
  have h : SC Tryd.prog w0 12 #[.string ⟨#[48, 49, 32]⟩, .int .u8 z] H (fun v H' => v = .int .i64 (Lib.indexByte [48, 49, 32] z.toNat.toUInt8) ∧ H' = H) :=
    SC.ofBelow fun w hw => (Any.strings_IndexByte lays137 ⟨#[48, 49, 32]⟩ z w).mono fun e w' ⟨h1, h2⟩ => ⟨h1, by rw [h2]; exact .refl _ _⟩
  refine h.mono ?_
  rintro _ _ ⟨rfl, rfl⟩
  exact ⟨_, rfl, sign_index hz, rfl⟩
theorem text_okT {w0 : World} {H : List Chunk} (sa : Option Addr) (n c : Nat) (es : List Int) (hR : Rd w0 H sa n c 1 (es.map (.int .u8))) (hn : n = es.length) (hm : n ≤ 140737488351232) (hc : chk es = 0) (hb : Bit es) : SC Tryd.prog w0 6 #[.slice sa n c] H (fun v H' => v = .tuple #[.string (strI (txt es)), .int .i64 0] ∧ H' = H) := text_ok sa n c es hR hn hm hc hb
theorem readT {w0 : World} {H : List Chunk} (es xs : List Int) (e : Int) (hb : Byte es) (hl : es.length ≤ 65536) (mx : Int) (hml : w0.cell? ⟨0, 0, none⟩ = some (.int .i64 mx)) (h : readS es = (xs, e)) : SC Tryd.prog w0 8 #[.string (strI es)] H (fun v H' => RV w0 H xs e v H') := by
  have := readB (w0 := w0) (H := H) es hb hl mx hml
  rw [h] at this
  exact this
theorem bitsReads_no {w0 : World} {H : List Chunk} (sa : Option Addr) (n c : Nat) (es : List Int) (hR : ∀ H, Rd w0 H sa n c 1 (es.map (.int .u8))) (hn : n = es.length) (hm : n ≤ 140737488351232) (hb : Byte es) (at_ sg : Int) (a0 : 0 ≤ at_) (a1 : at_ ≤ 65535) (s0 : 0 ≤ sg) (s1 : sg ≤ 255) (mx : Int) (hml : w0.cell? ⟨0, 0, none⟩ = some (.int .i64 mx)) (hc : chk es ≠ 0) : SC Tryd.prog w0 4 #[.slice sa n c, .int .u16 at_, .int .u8 sg] H (fun v H' => v = .bool true ∧ H' = H) := by
 refine SC.enter Tryd.func4 rfl (Nat.le_of_ble_eq_true rfl) ?_
 refine SW.seq_k fun K0 hK0 => ?_
 refine SW.region _ _ _ _ ?_
 refine RL.p T ?_
 refine RL.nil _ _ _ _ ?_
 refine hK0 _ _ _ ?_
 refine SW.seq_k fun K1 hK1 => ?_
 refine SW.seq_k fun K2 hK2 => ?_
 refine SW.region _ _ _ _ ?_
 refine RL.c fun5 (fun hs => alive) ?_
 rintro _ _ ⟨rfl, e⟩; obtain rfl := e.symm
 refine RL.p T ?_
 refine RL.nil _ _ _ _ ?_
 refine hK2 _ _ _ ?_
 refine SW.cs (fun hc0 => ?_) (fun hc0 => ?_)
 ·skip
  first
   | (exfalso; first | omega | contradiction | (clear hK2 K2; clear hK1 K1; clear hK0 K0; simp at *; done))
   | (
    refine SW.seq_k fun K3 hK3 => ?_
    refine SW.region _ _ _ _ ?_
    refine RL.p T ?_
    refine RL.nil _ _ _ _ ?_
    refine hK3 _ _ _ ?_
    refine SW.ret ?_
    refine retQ.rr (H) ?_
    clear hK3 K3 hK2 K2 hK1 K1 hK0 K0
    first | exact ⟨rfl, rfl⟩ | (refine ⟨boolE ?_, rfl⟩; simp; done)
    )
 ·skip
  first
   | (exfalso; first | omega | contradiction | (clear hK2 K2; clear hK1 K1; clear hK0 K0; simp at *; done))
   | (
    refine SW.skip ?_
    refine hK1 _ _ _ ?_
    refine SW.seq_k fun K4 hK4 => ?_
    refine SW.seq_k fun K5 hK5 => ?_
    refine SW.region _ _ _ _ ?_
    refine RL.p T ?_
    refine RL.p T ?_
    refine RL.p T ?_
    refine RL.nil _ _ _ _ ?_
    refine hK5 _ _ _ ?_
    refine SW.cs (fun hc1 => ?_) (fun hc1 => ?_)
    ·skip
     first
      | (exfalso; first | omega | contradiction | (clear hK5 K5; clear hK4 K4; clear hK2 K2; clear hK1 K1; clear hK0 K0; simp at *; done))
      | (
       refine SW.seq_k fun K6 hK6 => ?_
       refine SW.region _ _ _ _ ?_
       refine RL.p T ?_
       refine RL.nil _ _ _ _ ?_
       refine hK6 _ _ _ ?_
       refine SW.ret ?_
       refine retQ.rr (H) ?_
       clear hK6 K6 hK5 K5 hK4 K4 hK2 K2 hK1 K1 hK0 K0
       first | exact ⟨rfl, rfl⟩ | (refine ⟨boolE ?_, rfl⟩; simp; done)
       )
    ·skip
     first
      | (exfalso; first | omega | contradiction | (clear hK5 K5; clear hK4 K4; clear hK2 K2; clear hK1 K1; clear hK0 K0; simp at *; done))
      | (
       refine SW.skip ?_
       refine hK4 _ _ _ ?_
       refine SW.seq_k fun K7 hK7 => ?_
       refine SW.region _ _ _ _ ?_
       refine RL.p T ?_
       refine RL.c fun6 (fun hs => text_bad sa n c es (hR _) hn hm hc) ?_
       rintro _ _ ⟨rfl, e⟩; obtain rfl := e.symm
       refine RL.p T ?_
       refine RL.p T ?_
       refine RL.p T ?_
       refine RL.p T ?_
       refine RL.p T ?_
       refine RL.nil _ _ _ _ ?_
       refine hK7 _ _ _ ?_
       refine SW.seq_k fun K8 hK8 => ?_
       refine SW.seq_k fun K9 hK9 => ?_
       refine SW.region _ _ _ _ ?_
       refine RL.p T ?_
       refine RL.p T ?_
       refine RL.nil _ _ _ _ ?_
       refine hK9 _ _ _ ?_
       refine SW.cs (fun hc2 => ?_) (fun hc2 => ?_)
       ·skip
        first
         | (exfalso; first | omega | contradiction | (clear hK9 K9; clear hK8 K8; clear hK7 K7; clear hK5 K5; clear hK4 K4; clear hK2 K2; clear hK1 K1; clear hK0 K0; simp at *; done))
         | (
          refine SW.seq_k fun K10 hK10 => ?_
          refine SW.region _ _ _ _ ?_
          refine RL.p T ?_
          refine RL.p T ?_
          refine RL.p T ?_
          refine RL.join (fr1 := ?_) 4 30 true [31, 32, 33, 34] (fun hs0 hj => ?_) ?_ ?_
          rotate_left
          ·have hs0j := hs0
           try simp only [decide_eq_true_eq, Bool.not_eq_true', decide_eq_false_iff_not, Bool.not_eq_false', Int.not_lt, Int.not_le, Int.toNat_natCast, Bool.and_eq_true, Bool.or_eq_true, Bool.and_eq_false_iff, Bool.or_eq_false_iff] at hs0
           refine RL.p T ?_
           refine RL.c fun11 (fun hs => check sa n c es (hR _) hn hm) ?_
           rintro _ _ ⟨rfl, e⟩; obtain rfl := e.symm
           refine RL.p T ?_
           refine RL.p T ?_
           exact hj
          ·repeat first | with_reducible exact Mx.refl | with_reducible exact Mx.mix | refine Mx.put rfl ?_ | refine Mx.upd rfl ?_ | refine Mx.updl rfl ?_ | refine Mx.fin rfl ?_ | refine Mx.inner rfl ?_ | refine Mx.none ?_ | exact Mx.refl | exact Mx.mix
          refine RL.and ?_
          refine RL.p T ?_
          refine RL.nil _ _ _ _ ?_
          refine hK10 _ _ _ ?_
          refine SW.ret ?_
          refine retQ.rr (H) ?_
          clear hK10 K10 hK9 K9 hK8 K8 hK7 K7 hK5 K5 hK4 K4 hK2 K2 hK1 K1 hK0 K0
          first | exact ⟨rfl, rfl⟩ | (refine ⟨boolE ?_, rfl⟩; simp; done)
          )
       ·skip
        exfalso; first | omega | contradiction | (clear hK9 K9; clear hK8 K8; clear hK7 K7; clear hK5 K5; clear hK4 K4; clear hK2 K2; clear hK1 K1; clear hK0 K0; simp at *; done)
       )
    )
theorem bitsReads_ok {w0 : World} {H : List Chunk} (sa : Option Addr) (n c : Nat) (es : List Int) (hR : ∀ H, Rd w0 H sa n c 1 (es.map (.int .u8))) (hn : n = es.length) (hm : n ≤ 140737488351232) (hb : Byte es) (at_ sg : Int) (a0 : 0 ≤ at_) (a1 : at_ ≤ 65535) (s0 : 0 ≤ sg) (s1 : sg ≤ 255) (mx : Int) (hml : w0.cell? ⟨0, 0, none⟩ = some (.int .i64 mx)) (hc : chk es = 0) : SC Tryd.prog w0 4 #[.slice sa n c, .int .u16 at_, .int .u8 sg] H (fun v H' => v = .bool true ∧ H' = H) := by
 refine SC.enter Tryd.func4 rfl (Nat.le_of_ble_eq_true rfl) ?_
 refine SW.seq_k fun K0 hK0 => ?_
 have hbb := chk_bit hb hc
 have htl := txt_len es
 have htb := txt_byte hbb
 have hsz := strI_size (txt es)
 have hr0 := read_txt0 hbb
 refine SW.region _ _ _ _ ?_
 refine RL.p T ?_
 refine RL.nil _ _ _ _ ?_
 refine hK0 _ _ _ ?_
 refine SW.seq_k fun K1 hK1 => ?_
 refine SW.seq_k fun K2 hK2 => ?_
 refine SW.region _ _ _ _ ?_
 refine RL.c fun5 (fun hs => alive) ?_
 rintro _ _ ⟨rfl, e⟩; obtain rfl := e.symm
 refine RL.p T ?_
 refine RL.nil _ _ _ _ ?_
 refine hK2 _ _ _ ?_
 refine SW.cs (fun hc0 => ?_) (fun hc0 => ?_)
 ·skip
  first
   | (exfalso; first | omega | contradiction | (clear hK2 K2; clear hK1 K1; clear hK0 K0; simp at *; done))
   | (
    refine SW.seq_k fun K3 hK3 => ?_
    refine SW.region _ _ _ _ ?_
    refine RL.p T ?_
    refine RL.nil _ _ _ _ ?_
    refine hK3 _ _ _ ?_
    refine SW.ret ?_
    refine retQ.rr (H) ?_
    clear hK3 K3 hK2 K2 hK1 K1 hK0 K0
    first
      | exact ⟨rfl, rfl⟩
      | (rcases hcase with ⟨q1, q2⟩ | ⟨q1, q2, q3⟩
         · first
           | (refine ⟨boolE ?_, rfl⟩; simp [q1]; done)
           | (exfalso; have := hix.2 q2; omega)
         · subst q2
           have hn4 : n3 = 0 := hn3
           first
           | (refine ⟨boolE ?_, rfl⟩; simp [q1, hn4]; done)
           | (exfalso; exact q3 (hix.1 (by omega))))
    )
 ·skip
  first
   | (exfalso; first | omega | contradiction | (clear hK2 K2; clear hK1 K1; clear hK0 K0; simp at *; done))
   | (
    refine SW.skip ?_
    refine hK1 _ _ _ ?_
    refine SW.seq_k fun K4 hK4 => ?_
    refine SW.seq_k fun K5 hK5 => ?_
    refine SW.region _ _ _ _ ?_
    refine RL.p T ?_
    refine RL.p T ?_
    refine RL.p T ?_
    refine RL.nil _ _ _ _ ?_
    refine hK5 _ _ _ ?_
    refine SW.cs (fun hc1 => ?_) (fun hc1 => ?_)
    ·skip
     first
      | (exfalso; first | omega | contradiction | (clear hK5 K5; clear hK4 K4; clear hK2 K2; clear hK1 K1; clear hK0 K0; simp at *; done))
      | (
       refine SW.seq_k fun K6 hK6 => ?_
       refine SW.region _ _ _ _ ?_
       refine RL.p T ?_
       refine RL.nil _ _ _ _ ?_
       refine hK6 _ _ _ ?_
       refine SW.ret ?_
       refine retQ.rr (H) ?_
       clear hK6 K6 hK5 K5 hK4 K4 hK2 K2 hK1 K1 hK0 K0
       first
         | exact ⟨rfl, rfl⟩
         | (rcases hcase with ⟨q1, q2⟩ | ⟨q1, q2, q3⟩
            · first
              | (refine ⟨boolE ?_, rfl⟩; simp [q1]; done)
              | (exfalso; have := hix.2 q2; omega)
            · subst q2
              have hn4 : n3 = 0 := hn3
              first
              | (refine ⟨boolE ?_, rfl⟩; simp [q1, hn4]; done)
              | (exfalso; exact q3 (hix.1 (by omega))))
       )
    ·skip
     first
      | (exfalso; first | omega | contradiction | (clear hK5 K5; clear hK4 K4; clear hK2 K2; clear hK1 K1; clear hK0 K0; simp at *; done))
      | (
       refine SW.skip ?_
       refine hK4 _ _ _ ?_
       refine SW.seq_k fun K7 hK7 => ?_
       refine SW.region _ _ _ _ ?_
       refine RL.p T ?_
       refine RL.c fun6 (fun hs => text_okT sa n c es (hR _) hn hm hc hbb) ?_
       rintro _ _ ⟨rfl, e⟩; obtain rfl := e.symm
       refine RL.p T ?_
       refine RL.p T ?_
       refine RL.p T ?_
       refine RL.p T ?_
       refine RL.p T ?_
       refine RL.nil _ _ _ _ ?_
       refine hK7 _ _ _ ?_
       refine SW.seq_k fun K8 hK8 => ?_
       refine SW.seq_k fun K9 hK9 => ?_
       refine SW.region _ _ _ _ ?_
       refine RL.p T ?_
       refine RL.p T ?_
       refine RL.nil _ _ _ _ ?_
       refine hK9 _ _ _ ?_
       refine SW.cs (fun hc2 => ?_) (fun hc2 => ?_)
       ·skip
        first
         | (exfalso; first | omega | contradiction | (clear hK9 K9; clear hK8 K8; clear hK7 K7; clear hK5 K5; clear hK4 K4; clear hK2 K2; clear hK1 K1; clear hK0 K0; simp at *; done))
         | (
          refine SW.seq_k fun K10 hK10 => ?_
          refine SW.region _ _ _ _ ?_
          refine RL.p T ?_
          refine RL.p T ?_
          refine RL.p T ?_
          refine RL.sp 30 (fun hs0 => ?_) (fun hs0 => ?_)
          ·skip
           exfalso; first | omega | contradiction | (clear hK10 K10; clear hK9 K9; clear hK8 K8; clear hK7 K7; clear hK5 K5; clear hK4 K4; clear hK2 K2; clear hK1 K1; clear hK0 K0; simp at *; done)
          ·skip
           first
            | (exfalso; first | omega | contradiction | (clear hK10 K10; clear hK9 K9; clear hK8 K8; clear hK7 K7; clear hK5 K5; clear hK4 K4; clear hK2 K2; clear hK1 K1; clear hK0 K0; simp at *; done))
            | (
             refine RL.guard_no rfl rfl rfl ?_
             refine RL.guard_no rfl rfl rfl ?_
             refine RL.guard_no rfl rfl rfl ?_
             refine RL.guard_no rfl rfl rfl ?_
             refine RL.p T ?_
             refine RL.p T ?_
             refine RL.nil _ _ _ _ ?_
             refine hK10 _ _ _ ?_
             refine SW.ret ?_
             refine retQ.rr (H) ?_
             clear hK10 K10 hK9 K9 hK8 K8 hK7 K7 hK5 K5 hK4 K4 hK2 K2 hK1 K1 hK0 K0
             first
               | exact ⟨rfl, rfl⟩
               | (rcases hcase with ⟨q1, q2⟩ | ⟨q1, q2, q3⟩
                  · first
                    | (refine ⟨boolE ?_, rfl⟩; simp [q1]; done)
                    | (exfalso; have := hix.2 q2; omega)
                  · subst q2
                    have hn4 : n3 = 0 := hn3
                    first
                    | (refine ⟨boolE ?_, rfl⟩; simp [q1, hn4]; done)
                    | (exfalso; exact q3 (hix.1 (by omega))))
             )
          )
       ·skip
        first
         | (exfalso; first | omega | contradiction | (clear hK9 K9; clear hK8 K8; clear hK7 K7; clear hK5 K5; clear hK4 K4; clear hK2 K2; clear hK1 K1; clear hK0 K0; simp at *; done))
         | (
          refine SW.skip ?_
          refine hK8 _ _ _ ?_
          refine SW.seq_k fun K11 hK11 => ?_
          refine SW.region _ _ _ _ ?_
          refine RL.p T ?_
          first | refine RL.cv T ?_ | refine RL.p T ?_ | refine RL.ts T ?_
          refine RL.p T ?_
          refine RL.p T ?_
          first | refine RL.ar ?_ | refine RL.p T ?_
          refine RL.s ?_
          refine QV.nv _ _ _ (fun c hc => by cases hc) (QV.as (QV.remP rfl rfl rfl (by omega) (by omega)) (show _ = Value.int .i64 (at_ % ((n : Int) + 1)) from congrArg _ (by rw [hsz, htl, hn]))) ?_
          refine RL.p T ?_
          refine RL.nil _ _ _ _ ?_
          refine hK11 _ _ _ ?_
          refine SW.seq_k fun K12 hK12 => ?_
          have hk0 := Int.emod_nonneg at_ (show (n : Int) + 1 ≠ 0 by omega)
          have hk1 := Int.emod_lt_of_pos at_ (show 0 < (n : Int) + 1 by omega)
          obtain ⟨k, hk⟩ : ∃ k : Nat, at_ % ((n : Int) + 1) = k := ⟨(at_ % ((n : Int) + 1)).toNat, by omega⟩
          have hkn : k ≤ n := by omega
          have hr1 := read_txt1 hbb k
          have hr2 := read_sign hbb k sg
          obtain ⟨xs3, e3, hr3, hcase⟩ : ∃ xs3 e3, readS (((txt es).take k ++ [sg]) ++ (txt es).drop k) = (xs3, e3) ∧ ((e3 = 0 ∧ (sg = 48 ∨ sg = 49 ∨ sg = 32)) ∨ (e3 = 2 ∧ xs3 = [] ∧ ¬ (sg = 48 ∨ sg = 49 ∨ sg = 32))) := by
            refine ⟨(readS (((txt es).take k ++ [sg]) ++ (txt es).drop k)).1, (readS (((txt es).take k ++ [sg]) ++ (txt es).drop k)).2, rfl, ?_⟩
            by_cases hsg : sg = 48 ∨ sg = 49 ∨ sg = 32
            · exact .inl ⟨hr2.1.2 hsg, hsg⟩
            · rw [hr2.2 hsg]; exact .inr ⟨rfl, rfl, hsg⟩
          have hb1 := txt_blank htb k
          have hb2 := txt_sign htb k ⟨s0, s1⟩
          have hl1 : ((([32] ++ (txt es).take k) ++ [32, 32]) ++ (txt es).drop k).length ≤ 65536 := by simp only [List.length_append, List.length_take, List.length_drop, List.length_cons, List.length_nil]; omega
          have hl2 : (((txt es).take k ++ [sg]) ++ (txt es).drop k).length ≤ 65536 := by simp only [List.length_append, List.length_take, List.length_drop, List.length_cons, List.length_nil]; omega
          refine SW.region _ _ _ _ ?_
          refine RL.p T ?_
          refine RL.c fun8 (fun hs => readT (txt es) es 0 htb (by omega) mx hml hr0) ?_
          rintro _ _ ⟨_, rfl, a1, n1, c1, rfl, hn1, hR1, G1, e⟩; obtain rfl := e.symm
          refine RL.p T ?_
          refine RL.p T ?_
          refine RL.p T ?_
          refine RL.p T ?_
          refine RL.p T ?_
          refine RL.nil _ _ _ _ ?_
          refine hK12 _ _ _ ?_
          refine SW.seq_k fun K13 hK13 => ?_
          refine SW.draw [(48, 0), (49, 1), (50, 2), (51, 3), (52, 4), (53, 5), (54, 6), (55, 7), (56, 8), (57, 9), (47, 10), (58, 11), (59, 12), (12, 13), (13, 14)] [[], [], [0, 1], [2, 0, 1], [3, 2, 0, 1], [], [], [5, 6], [4, 3, 2, 0, 1, 7, 5, 6], [8, 4, 3, 2, 0, 1, 7, 5, 6], [9, 8, 4, 3, 2, 0, 1, 7, 5, 6], [10, 9, 8, 4, 3, 2, 0, 1, 7, 5, 6], [10, 9, 8, 4, 3, 2, 0, 1, 7, 5, 6], [11, 10, 9, 8, 4, 3, 2, 0, 1, 7, 5, 6], [12, 10, 9, 8, 4, 3, 2, 0, 1, 7, 5, 6, 13, 11]] mixed (by kernel_rfl) (by kernel_rfl) ?_
          refine RD.p T ?_
          refine RD.p T ?_
          refine RD.q rfl rfl (Gd.none rfl) (QV.strTk T rfl rfl rfl rfl (by omega) (by rw [txt_len]; omega)) ?_
          refine RD.q rfl rfl (Gd.none rfl) (QV.strAdd (es := [32]) (fs := ((txt es).take k)) rfl rfl rfl rfl rfl (by simp [txt_len] <;> omega)) ?_
          refine RD.q rfl rfl (Gd.none rfl) (QV.strAdd (es := ([32] ++ (txt es).take k)) (fs := [32, 32]) rfl rfl rfl rfl rfl (by simp [txt_len] <;> omega)) ?_
          refine RD.p T ?_
          refine RD.p T ?_
          refine RD.q rfl rfl (Gd.none rfl) (QV.strDp T rfl rfl rfl rfl (by omega) (by rw [txt_len]; omega)) ?_
          refine RD.q rfl rfl (Gd.none rfl) (QV.strAdd (es := (([32] ++ (txt es).take k) ++ [32, 32])) (fs := ((txt es).drop k)) rfl rfl rfl rfl rfl (by simp [txt_len] <;> omega)) ?_
          refine RD.nv rfl rfl rfl (Gd.none rfl) ?_
          refine NV.call rfl rfl rfl fun8 rfl rfl (readT ((([32] ++ (txt es).take k) ++ [32, 32]) ++ (txt es).drop k) es 0 hb1 hl1 mx hml hr1) ?_
          rintro _ _ ⟨_, rfl, a2, n2, c2, rfl, hn2, hR2, G2, e⟩; obtain rfl := e.symm
          refine ⟨Stab.nil, ?_⟩
          refine RD.p T ?_
          refine RD.p T ?_
          refine RD.p T ?_
          refine RD.p T ?_
          refine RD.p T ?_
          refine RD.k rfl rfl ?_
          refine hK13 _ _ _ ?_
          refine SW.seq_k fun K14 hK14 => ?_
          refine SW.draw [(61, 0), (62, 1), (63, 2), (64, 3), (65, 4), (66, 5), (67, 6), (68, 7), (69, 8), (70, 9), (71, 10), (72, 11), (60, 12), (73, 13), (74, 14), (14, 15), (15, 16)] [[], [], [0, 1], [], [3], [4, 3], [2, 0, 1, 5, 4, 3], [], [], [7, 8], [6, 2, 0, 1, 5, 4, 3, 9, 7, 8], [10, 6, 2, 0, 1, 5, 4, 3, 9, 7, 8], [11, 10, 6, 2, 0, 1, 5, 4, 3, 9, 7, 8], [12, 11, 10, 6, 2, 0, 1, 5, 4, 3, 9, 7, 8], [12, 11, 10, 6, 2, 0, 1, 5, 4, 3, 9, 7, 8], [13, 12, 11, 10, 6, 2, 0, 1, 5, 4, 3, 9, 7, 8], [14, 12, 11, 10, 6, 2, 0, 1, 5, 4, 3, 9, 7, 8, 15, 13]] mixed (by kernel_rfl) (by kernel_rfl) ?_
          refine RD.p T ?_
          refine RD.p T ?_
          refine RD.q rfl rfl (Gd.none rfl) (QV.strTk T rfl rfl rfl rfl (by omega) (by rw [txt_len]; omega)) ?_
          refine RD.p T ?_
          refine RD.p T ?_
          refine RD.p T ?_
          refine RD.q rfl rfl (Gd.none rfl) (QV.strDp T rfl rfl rfl rfl (by omega) (by rw [txt_len]; omega)) ?_
          refine RD.nv rfl rfl rfl (Gd.none rfl) ?_
          refine NV.build1 T rfl (by conv => lhs; whnf) rfl rfl (by conv => lhs; whnf) (by exact (rfl : _ = some [_])) ?_
          intro b65_0
          refine ⟨(Stab.cons rfl (Gd.none rfl) (QV.strDp T rfl rfl rfl rfl (by omega) (by rw [txt_len]; omega)) (Stab.cons rfl (Gd.none rfl) (pev_sound T rfl) (Stab.cons rfl (Gd.none rfl) (pev_sound T rfl) (Stab.cons rfl (Gd.none rfl) (QV.strTk T rfl rfl rfl rfl (by omega) (by rw [txt_len]; omega)) (Stab.cons rfl (Gd.none rfl) (pev_sound T rfl) (Stab.cons rfl (Gd.none rfl) (pev_sound T rfl) Stab.nil)))))), ?_⟩
          refine RD.q rfl rfl (Gd.none rfl) (QV.toStr T rfl rfl rfl rfl rfl (es := [sg]) (fun hs => Rd.rowh hs (At.head _ _))) ?_
          refine RD.q rfl rfl (Gd.none rfl) (QV.strAdd (es := ((txt es).take k)) (fs := [sg]) rfl rfl rfl rfl rfl (by simp [txt_len] <;> omega)) ?_
          refine RD.q rfl rfl (Gd.none rfl) (QV.strAdd (es := ((txt es).take k ++ [sg])) (fs := ((txt es).drop k)) rfl rfl rfl rfl rfl (by simp [txt_len] <;> omega)) ?_
          refine RD.nv rfl rfl rfl (Gd.none rfl) ?_
          refine NV.call rfl rfl rfl fun8 rfl rfl (readT (((txt es).take k ++ [sg]) ++ (txt es).drop k) xs3 e3 hb2 hl2 mx hml hr3) ?_
          rintro _ _ ⟨_, rfl, a3, n3, c3, rfl, hn3, hR3, G3, e⟩; obtain rfl := e.symm
          refine ⟨Stab.nil, ?_⟩
          refine RD.p T ?_
          refine RD.p T ?_
          refine RD.p T ?_
          refine RD.p T ?_
          refine RD.p T ?_
          refine RD.k rfl rfl ?_
          refine hK14 _ _ _ ?_
          refine SW.seq_k fun K15 hK15 => ?_
          refine SW.seq_k fun K16 hK16 => ?_
          refine SW.region _ _ _ _ ?_
          refine RL.p T ?_
          refine RL.p T ?_
          refine RL.p T ?_
          refine RL.join (fr1 := ?_) 2 77 false [78, 79] (fun hs1 hj => ?_) ?_ ?_
          rotate_left
          ·have hs1j := hs1
           try simp only [decide_eq_true_eq, Bool.not_eq_true', decide_eq_false_iff_not, Bool.not_eq_false', Int.not_lt, Int.not_le, Int.toNat_natCast, Bool.and_eq_true, Bool.or_eq_true, Bool.and_eq_false_iff, Bool.or_eq_false_iff] at hs1
           refine RL.p T ?_
           refine RL.p T ?_
           exact hj
          ·repeat first | with_reducible exact Mx.refl | with_reducible exact Mx.mix | refine Mx.put rfl ?_ | refine Mx.upd rfl ?_ | refine Mx.updl rfl ?_ | refine Mx.fin rfl ?_ | refine Mx.inner rfl ?_ | refine Mx.none ?_ | exact Mx.refl | exact Mx.mix
          refine RL.or ?_
          refine RL.p T ?_
          refine RL.join (fr1 := ?_) 4 81 false [82, 83, 84, 85] (fun hs2 hj => ?_) ?_ ?_
          rotate_left
          ·have hs2j := hs2
           try simp only [decide_eq_true_eq, Bool.not_eq_true', decide_eq_false_iff_not, Bool.not_eq_false', Int.not_lt, Int.not_le, Int.toNat_natCast, Bool.and_eq_true, Bool.or_eq_true, Bool.and_eq_false_iff, Bool.or_eq_false_iff] at hs2
           refine RL.p T ?_
           refine RL.p T ?_
           refine RL.c fun10 (fun hs => (same _ _ _ _ _ _ es es (by repeat first | exact hR1 | apply Rd.cons | apply Rd.app) (hR _) hn1 hn (by omega) hm).mono (fun v H' h => by rw [decide_eq_true rfl] at h; exact h)) ?_
           rintro _ _ ⟨rfl, e⟩; obtain rfl := e.symm
           refine RL.p T ?_
           exact hj
          ·repeat first | with_reducible exact Mx.refl | with_reducible exact Mx.mix | refine Mx.put rfl ?_ | refine Mx.upd rfl ?_ | refine Mx.updl rfl ?_ | refine Mx.fin rfl ?_ | refine Mx.inner rfl ?_ | refine Mx.none ?_ | exact Mx.refl | exact Mx.mix
          refine RL.or ?_
          refine RL.p T ?_
          refine RL.join (fr1 := ?_) 4 87 false [88, 89, 90, 91] (fun hs3 hj => ?_) ?_ ?_
          rotate_left
          ·have hs3j := hs3
           try simp only [decide_eq_true_eq, Bool.not_eq_true', decide_eq_false_iff_not, Bool.not_eq_false', Int.not_lt, Int.not_le, Int.toNat_natCast, Bool.and_eq_true, Bool.or_eq_true, Bool.and_eq_false_iff, Bool.or_eq_false_iff] at hs3
           refine RL.p T ?_
           refine RL.p T ?_
           refine RL.c fun10 (fun hs => (same _ _ _ _ _ _ es es (by repeat first | exact hR2 | apply Rd.cons | apply Rd.app) (hR _) hn2 hn (by omega) hm).mono (fun v H' h => by rw [decide_eq_true rfl] at h; exact h)) ?_
           rintro _ _ ⟨rfl, e⟩; obtain rfl := e.symm
           refine RL.p T ?_
           exact hj
          ·repeat first | with_reducible exact Mx.refl | with_reducible exact Mx.mix | refine Mx.put rfl ?_ | refine Mx.upd rfl ?_ | refine Mx.updl rfl ?_ | refine Mx.fin rfl ?_ | refine Mx.inner rfl ?_ | refine Mx.none ?_ | exact Mx.refl | exact Mx.mix
          refine RL.or ?_
          refine RL.nil _ _ _ _ ?_
          refine hK16 _ _ _ ?_
          refine SW.cs (fun hc3 => ?_) (fun hc3 => ?_)
          ·skip
           first
            | (exfalso; first | omega | contradiction | (clear hK16 K16; clear hK15 K15; clear hK14 K14; clear hK13 K13; clear hK12 K12; clear hK11 K11; clear hK9 K9; clear hK8 K8; clear hK7 K7; clear hK5 K5; clear hK4 K4; clear hK2 K2; clear hK1 K1; clear hK0 K0; simp at *; done))
            | (
             refine SW.seq_k fun K17 hK17 => ?_
             refine SW.region _ _ _ _ ?_
             refine RL.p T ?_
             refine RL.nil _ _ _ _ ?_
             refine hK17 _ _ _ ?_
             refine SW.ret ?_
             refine retQ.rr (H) ?_
             clear hK17 K17 hK16 K16 hK15 K15 hK14 K14 hK13 K13 hK12 K12 hK11 K11 hK9 K9 hK8 K8 hK7 K7 hK5 K5 hK4 K4 hK2 K2 hK1 K1 hK0 K0
             first
               | exact ⟨rfl, rfl⟩
               | (rcases hcase with ⟨q1, q2⟩ | ⟨q1, q2, q3⟩
                  · first
                    | (refine ⟨boolE ?_, rfl⟩; simp [q1]; done)
                    | (exfalso; have := hix.2 q2; omega)
                  · subst q2
                    have hn4 : n3 = 0 := hn3
                    first
                    | (refine ⟨boolE ?_, rfl⟩; simp [q1, hn4]; done)
                    | (exfalso; exact q3 (hix.1 (by omega))))
             )
          ·skip
           first
            | (exfalso; first | omega | contradiction | (clear hK16 K16; clear hK15 K15; clear hK14 K14; clear hK13 K13; clear hK12 K12; clear hK11 K11; clear hK9 K9; clear hK8 K8; clear hK7 K7; clear hK5 K5; clear hK4 K4; clear hK2 K2; clear hK1 K1; clear hK0 K0; simp at *; done))
            | (
             refine SW.skip ?_
             refine hK15 _ _ _ ?_
             refine SW.seq_k fun K18 hK18 => ?_
             refine SW.seq_k fun K19 hK19 => ?_
             refine SW.region _ _ _ _ ?_
             refine RL.p T ?_
             refine RL.c fun12 (fun hs => indexC sg ⟨s0, s1⟩) ?_
             rintro _ _ ⟨ix, rfl, hix, e⟩; obtain rfl := e.symm
             refine RL.p T ?_
             refine RL.nil _ _ _ _ ?_
             refine hK19 _ _ _ ?_
             refine SW.cs (fun hc4 => ?_) (fun hc4 => ?_)
             ·skip
              first
               | (exfalso; first | omega | contradiction | (clear hK19 K19; clear hK18 K18; clear hK16 K16; clear hK15 K15; clear hK14 K14; clear hK13 K13; clear hK12 K12; clear hK11 K11; clear hK9 K9; clear hK8 K8; clear hK7 K7; clear hK5 K5; clear hK4 K4; clear hK2 K2; clear hK1 K1; clear hK0 K0; simp at *; done))
               | (
                refine SW.seq_k fun K20 hK20 => ?_
                refine SW.region _ _ _ _ ?_
                refine RL.p T ?_
                refine RL.p T ?_
                refine RL.p T ?_
                refine RL.nil _ _ _ _ ?_
                refine hK20 _ _ _ ?_
                refine SW.ret ?_
                refine retQ.rr (H) ?_
                clear hK20 K20 hK19 K19 hK18 K18 hK16 K16 hK15 K15 hK14 K14 hK13 K13 hK12 K12 hK11 K11 hK9 K9 hK8 K8 hK7 K7 hK5 K5 hK4 K4 hK2 K2 hK1 K1 hK0 K0
                first
                  | exact ⟨rfl, rfl⟩
                  | (rcases hcase with ⟨q1, q2⟩ | ⟨q1, q2, q3⟩
                     · first
                       | (refine ⟨boolE ?_, rfl⟩; simp [q1]; done)
                       | (exfalso; have := hix.2 q2; omega)
                     · subst q2
                       have hn4 : n3 = 0 := hn3
                       first
                       | (refine ⟨boolE ?_, rfl⟩; simp [q1, hn4]; done)
                       | (exfalso; exact q3 (hix.1 (by omega))))
                )
             ·skip
              first
               | (exfalso; first | omega | contradiction | (clear hK19 K19; clear hK18 K18; clear hK16 K16; clear hK15 K15; clear hK14 K14; clear hK13 K13; clear hK12 K12; clear hK11 K11; clear hK9 K9; clear hK8 K8; clear hK7 K7; clear hK5 K5; clear hK4 K4; clear hK2 K2; clear hK1 K1; clear hK0 K0; simp at *; done))
               | (
                refine SW.skip ?_
                refine hK18 _ _ _ ?_
                refine SW.seq_k fun K21 hK21 => ?_
                refine SW.region _ _ _ _ ?_
                refine RL.p T ?_
                refine RL.p T ?_
                refine RL.p T ?_
                refine RL.join (fr1 := ?_) 3 100 true [101, 102, 103] (fun hs4 hj => ?_) ?_ ?_
                rotate_left
                ·have hs4j := hs4
                 try simp only [decide_eq_true_eq, Bool.not_eq_true', decide_eq_false_iff_not, Bool.not_eq_false', Int.not_lt, Int.not_le, Int.toNat_natCast, Bool.and_eq_true, Bool.or_eq_true, Bool.and_eq_false_iff, Bool.or_eq_false_iff] at hs4
                 refine RL.p T ?_
                 refine RL.p T ?_
                 refine RL.p T ?_
                 exact hj
                ·repeat first | with_reducible exact Mx.refl | with_reducible exact Mx.mix | refine Mx.put rfl ?_ | refine Mx.upd rfl ?_ | refine Mx.updl rfl ?_ | refine Mx.fin rfl ?_ | refine Mx.inner rfl ?_ | refine Mx.none ?_ | exact Mx.refl | exact Mx.mix
                refine RL.and ?_
                refine RL.p T ?_
                refine RL.nil _ _ _ _ ?_
                refine hK21 _ _ _ ?_
                refine SW.ret ?_
                refine retQ.rr (H) ?_
                clear hK21 K21 hK19 K19 hK18 K18 hK16 K16 hK15 K15 hK14 K14 hK13 K13 hK12 K12 hK11 K11 hK9 K9 hK8 K8 hK7 K7 hK5 K5 hK4 K4 hK2 K2 hK1 K1 hK0 K0
                first
                  | exact ⟨rfl, rfl⟩
                  | (rcases hcase with ⟨q1, q2⟩ | ⟨q1, q2, q3⟩
                     · first
                       | (refine ⟨boolE ?_, rfl⟩; simp [q1]; done)
                       | (exfalso; have := hix.2 q2; omega)
                     · subst q2
                       have hn4 : n3 = 0 := hn3
                       first
                       | (refine ⟨boolE ?_, rfl⟩; simp [q1, hn4]; done)
                       | (exfalso; exact q3 (hix.1 (by omega))))
                )
             )
          )
       )
    )
theorem bitsReads {w0 : World} {H : List Chunk} (sa : Option Addr) (n c : Nat) (es : List Int) (hR : ∀ H, Rd w0 H sa n c 1 (es.map (.int .u8))) (hn : n = es.length) (hm : n ≤ 140737488351232) (hb : Byte es) (at_ sg : Int) (a0 : 0 ≤ at_) (a1 : at_ ≤ 65535) (s0 : 0 ≤ sg) (s1 : sg ≤ 255) (mx : Int) (hml : w0.cell? ⟨0, 0, none⟩ = some (.int .i64 mx)) : SC Tryd.prog w0 4 #[.slice sa n c, .int .u16 at_, .int .u8 sg] H (fun v H' => v = .bool true ∧ H' = H) := by
  by_cases hc : chk es = 0
  · exact bitsReads_ok sa n c es hR hn hm hb at_ sg a0 a1 s0 s1 mx hml hc
  · exact bitsReads_no sa n c es hR hn hm hb at_ sg a0 a1 s0 s1 mx hml hc
end Go.Proofs.YtokihacnhefbfaaDoor.M
