import Derived.Test.YthigfghfpmpiiaaProg
import Derived.Test.YthigfghfpmpiiaaFA19
set_option linter.unusedVariables false
set_option linter.unusedSimpArgs false
namespace Go.Proofs.Ythigfghfpmpiiaa.M
open Go Go.Sep Go.Proofs
set_option maxRecDepth 10000
set_option maxHeartbeats 2000000
theorem rsize {w0 : World} {H : List Chunk} (p : Pd) (hp : PdOk w0 H p) : SC Try.prog w0 11 #[PdA p] H (fun v H' => v = .tuple #[.int .i64 (sizeP p).1, .int .i64 (sizeP p).2] ∧ H' = H) := by
 refine SC.enter Try.func11 rfl (Nat.le_of_ble_eq_true rfl) ?_
 refine SW.seq_k fun K0 hK0 => ?_
 have hl := hp.len
 have hm := hp.max
 refine SW.region _ _ _ _ ?_
 refine RL.s ?_
 refine NV.box rfl (by exact (rfl : _ = [_, _])) ?_
 intro b1_0
 refine RL.p T ?_
 refine RL.p T ?_
 refine RL.nil _ _ _ _ ?_
 refine hK0 _ _ _ ?_
 refine SW.seq_k fun K1 hK1 => ?_
 refine SW.seq_k fun K2 hK2 => ?_
 refine SW.region _ _ _ _ ?_
 refine RL.p T ?_
 refine RL.lv1 T ?_
 refine RL.p T ?_
 refine RL.p T ?_
 refine RL.p T ?_
 refine RL.sp 8 (fun hs0 => ?_) (fun hs0 => ?_)
 ·skip
  first
   | (exfalso; first | omega | contradiction | (simp at *; done))
   | (
    refine RL.guard_no rfl rfl rfl ?_
    refine RL.guard_no rfl rfl rfl ?_
    refine RL.guard_no rfl rfl rfl ?_
    refine RL.guard_no rfl rfl rfl ?_
    refine RL.p T ?_
    refine RL.nil _ _ _ _ ?_
    refine hK2 _ _ _ ?_
    refine SW.cond_t rfl ?_
    refine SW.seq_k fun K3 hK3 => ?_
    refine SW.region _ _ _ _ ?_
    refine RL.p T ?_
    refine RL.p T ?_
    refine RL.nil _ _ _ _ ?_
    refine hK3 _ _ _ ?_
    refine SW.ret ?_
    refine retQ.rr (H) ?_
    clear hK3 K3 hK2 K2 hK1 K1 hK0 K0
    refine ⟨?_, rfl⟩
    first
      | (rw [sizeP_bad (p := p) (by omega)]; rfl)
      | (rw [sizeP_ok (p := p) (by omega) (by omega)]; rfl)
    )
 ·skip
  first
   | (exfalso; first | omega | contradiction | (simp at *; done))
   | (
    refine RL.lvN T rfl rfl rfl rfl rfl (by repeat first | exact At.head _ _ | assumption | exact At.put (by assumption) _ | apply At.tail | apply At.app) (by exact (rfl : _ = [_, _])) ?_
    refine RL.c fun13 (fun hs => pone p hp.cons (by omega)) ?_
    rintro _ _ ⟨a1, c1, rfl, e⟩; obtain rfl := e.symm
    refine RL.p T ?_
    refine RL.p T ?_
    refine RL.p T ?_
    refine RL.nil _ _ _ _ ?_
    refine hK2 _ _ _ ?_
    refine SW.cs (fun hc0 => ?_) (fun hc0 => ?_)
    ·skip
     first
      | (exfalso; first | omega | contradiction | (simp at *; done))
      | (
       refine SW.seq_k fun K4 hK4 => ?_
       refine SW.region _ _ _ _ ?_
       refine RL.p T ?_
       refine RL.p T ?_
       refine RL.nil _ _ _ _ ?_
       refine hK4 _ _ _ ?_
       refine SW.ret ?_
       refine retQ.rr (H) ?_
       clear hK4 K4 hK2 K2 hK1 K1 hK0 K0
       refine ⟨?_, rfl⟩
       first
         | (rw [sizeP_bad (p := p) (by omega)]; rfl)
         | (rw [sizeP_ok (p := p) (by omega) (by omega)]; rfl)
       )
    ·skip
     first
      | (exfalso; first | omega | contradiction | (simp at *; done))
      | (
       refine SW.skip ?_
       refine hK1 _ _ _ ?_
       refine SW.seq_k fun K5 hK5 => ?_
       refine SW.region _ _ _ _ ?_
       refine RL.lvN T rfl rfl rfl rfl rfl (by repeat first | exact At.head _ _ | assumption | exact At.put (by assumption) _ | apply At.tail | apply At.app) (by exact (rfl : _ = [_, _])) ?_
       refine RL.c fun13 (fun hs => pone p (by first | exact hp.cons.cons | exact hp.cons) (by omega)) ?_
       rintro _ _ ⟨a2, c2, rfl, e⟩; obtain rfl := e.symm
       refine RL.p T ?_
       refine RL.p T ?_
       refine RL.p T ?_
       refine RL.nil _ _ _ _ ?_
       refine hK5 _ _ _ ?_
       refine SW.ret ?_
       refine retQ.rr (H) ?_
       clear hK5 K5 hK2 K2 hK1 K1 hK0 K0
       refine ⟨?_, rfl⟩
       first
         | (rw [sizeP_bad (p := p) (by omega)]; rfl)
         | (rw [sizeP_ok (p := p) (by omega) (by omega)]; rfl)
       )
    )
theorem pput {w0 : World} {H : List Chunk} (p : Pd) (hp : PdOk w0 H p) (a : Option Addr) (n c : Nat) (xs : List Int) (hn : n = xs.length) (hm2 : n ≤ 2048) (h2 : p.data.length ≤ 2048) : SC Try.prog w0 12 #[.slice a n c, PdA p] (.row a n c 5 1 (List.map (Value.int .u8) (xs)) :: H) (fun v H' => ∃ a' c', v = .slice a' (n + wholeN p.data.length) c' ∧ H' = .row a' (n + wholeN p.data.length) c' 5 1 (List.map (Value.int .u8) (xs ++ bytesP p)) :: H) := by
 refine SC.enter Try.func12 rfl (Nat.le_of_ble_eq_true rfl) ?_
 refine SW.seq_k fun K0 hK0 => ?_
 have hl := hp.len
 have hm := hp.max
 have hid := hp.id
 have hpad := pad_lt p.data.length
 have hwn : wholeN p.data.length = 8 + p.data.length + padN p.data.length := rfl
 refine SW.region _ _ _ _ ?_
 refine RL.s ?_
 refine NV.box rfl (by exact (rfl : _ = [_, _])) ?_
 intro b3_0
 refine RL.p T ?_
 refine RL.nil _ _ _ _ ?_
 refine hK0 _ _ _ ?_
 refine SW.seq_k fun K1 hK1 => ?_
 refine SW.region _ _ _ _ ?_
 refine RL.p T ?_
 refine RL.p T ?_
 refine RL.p T ?_
 refine RL.nil _ _ _ _ ?_
 refine hK1 _ _ _ ?_
 refine SW.seq_k fun K2 hK2 => ?_
 refine SW.region _ _ _ _ ?_
 refine RL.p T ?_
 refine RL.lv1 T ?_
 refine RL.p T ?_
 refine RL.p T ?_
 refine RL.nil _ _ _ _ ?_
 refine hK2 _ _ _ ?_
 refine SW.seq_k fun K3 hK3 => ?_
 refine SW.region _ _ _ _ ?_
 refine RL.p T ?_
 refine RL.p T ?_
 refine RL.lv1 T ?_
 first | refine RL.q (QV.shrP rfl rfl rfl (by exact (rfl : _ = ((_ : Nat) : Int))) (by omega) rfl) ?_ | refine RL.q (QV.shift rfl rfl rfl (by omega) (.inr ⟨rfl, rfl⟩)) ?_
 first | refine RL.cv T ?_ | refine RL.p T ?_ | refine RL.ts T ?_
 refine RL.p T ?_
 refine RL.lv1 T ?_
 first | refine RL.q (QV.shrP rfl rfl rfl (by exact (rfl : _ = ((_ : Nat) : Int))) (by omega) rfl) ?_ | refine RL.q (QV.shift rfl rfl rfl (by omega) (.inr ⟨rfl, rfl⟩)) ?_
 first | refine RL.cv T ?_ | refine RL.p T ?_ | refine RL.ts T ?_
 refine RL.p T ?_
 refine RL.lv1 T ?_
 first | refine RL.q (QV.shrP rfl rfl rfl (by exact (rfl : _ = ((_ : Nat) : Int))) (by omega) rfl) ?_ | refine RL.q (QV.shift rfl rfl rfl (by omega) (.inr ⟨rfl, rfl⟩)) ?_
 first | refine RL.cv T ?_ | refine RL.p T ?_ | refine RL.ts T ?_
 refine RL.p T ?_
 refine RL.lv1 T ?_
 first | refine RL.cv T ?_ | refine RL.p T ?_ | refine RL.ts T ?_
 refine RL.p T ?_
 first | refine RL.q (QV.shrP rfl rfl rfl (by exact (rfl : _ = ((_ : Nat) : Int))) (by omega) rfl) ?_ | refine RL.q (QV.shift rfl rfl rfl (by omega) (.inr ⟨rfl, rfl⟩)) ?_
 first | refine RL.cv T ?_ | refine RL.p T ?_ | refine RL.ts T ?_
 refine RL.p T ?_
 first | refine RL.cv T ?_ | refine RL.p T ?_ | refine RL.ts T ?_
 refine RL.bs T rfl rfl rfl (by exact (rfl : _ = some [_, _, _, _, _, _, _, _])) (fun b33_1 => ?_)
 first | refine RL.apI1 (ki := .u8) T (fun a0_ c0_ => ?_) | refine RL.apI (ki := .u8) T (fun a0_ c0_ => ?_) | refine RL.apI (ki := .u8) (xs := []) T (fun a0_ c0_ => ?_)
 refine RL.p T ?_
 refine RL.nil _ _ _ _ ?_
 refine hK3 _ _ _ ?_
 refine SW.seq_k fun K4 hK4 => ?_
 refine SW.region _ _ _ _ ?_
 refine RL.p T ?_
 refine RL.p T ?_
 refine RL.lv1 T ?_
 refine RL.apI (ki := .u8) T (fun a1_ c1_ => ?_) (hR := fun hs => hp.rd.cons.cons)
 refine RL.p T ?_
 refine RL.nil _ _ _ _ ?_
 refine hK4 _ _ _ ?_
 refine SW.seq_k fun K5 hK5 => ?_
 refine SW.region _ _ _ _ ?_
 refine RL.p T ?_
 refine RL.p T ?_
 refine RL.c fun14 (fun hs => whole p.n (by omega)) ?_
 rintro _ _ ⟨rfl, e⟩; obtain rfl := e.symm
 rw [hl]
 refine RL.p T ?_
 refine RL.p T ?_
 refine RL.p T ?_
 first | refine RL.ar ?_ | refine RL.p T ?_
 first | refine RL.ar ?_ | refine RL.p T ?_
 refine RL.apZ (m := padN p.data.length) (ki := .u8) T (fun a2_ c2_ => ?_)
 refine RL.p T ?_
 refine RL.nil _ _ _ _ ?_
 refine hK5 _ _ _ ?_
 refine SW.ret ?_
 have e1 : ∀ q, n + 8 + p.data.length + q = n + (8 + p.data.length + q) := fun q => by omega
 rw [e1, put_row]
 refine retQ.rr ((.row a2_ (n + wholeN p.data.length) c2_ 5 1 (List.map (Value.int .u8) (xs ++ bytesP p)) :: H)) ?_
 clear hK5 K5 hK4 K4 hK3 K3 hK2 K2 hK1 K1 hK0 K0
 exact ⟨_, _, rfl, rfl⟩
end Go.Proofs.Ythigfghfpmpiiaa.M
