import Derived.Test.YtjemdjjmpgjieaaProg
import Derived.Test.YtjemdjjmpgjieaaFO14
import Derived.Test.YtjemdjjmpgjieaaS26
import Derived.Test.YtjemdjjmpgjieaaP14f
set_option linter.unusedVariables false
set_option linter.unusedSimpArgs false
namespace Go.Proofs.Ytjemdjjmpgjieaa.M
open Go Go.Sep Go.Proofs
set_option maxRecDepth 10000
set_option maxHeartbeats 2000000
/-- An act. -/
structure Qa where
  k : Int
  no : Int
  x : Fs
instance : Inhabited Qa := ⟨⟨0, 0, default⟩⟩
def QaC (y : Qa) : List Value := .int .i64 y.k :: .int .i64 y.no :: FsC y.x
instance : RowE QaC 13 := ⟨fun _ => rfl, fun r u hu => by
  simp only [QaC, FsC, FC, List.mem_cons, List.mem_nil_iff, or_false] at hu
  rcases hu with rfl | rfl | rfl | rfl | rfl | rfl | rfl | rfl | rfl | rfl | rfl | rfl | rfl <;> rfl⟩
theorem chk_len {f : Frm} (h : chkF f = 0) : f.data.length ≤ 2048 := by
  rcases chkF_or f with _ | g
  · by_cases hk : (codeS f.kind f.data.length).2 = 0
    · unfold codeS at hk
      by_cases h1 : f.kind = 3 ∧ 1 ≤ (f.data.length : Int) ∧ (f.data.length : Int) ≤ 2048
      · omega
      · rw [if_neg h1] at hk
        by_cases h2 : f.kind = 1 ∧ 0 ≤ (f.data.length : Int) ∧ (f.data.length : Int) ≤ 8
        · omega
        · rw [if_neg h2] at hk
          by_cases h3 : f.kind = 2 ∧ 0 ≤ (f.data.length : Int) ∧ (f.data.length : Int) ≤ 64 ∧ fdSize (fdUp f.data.length) = f.data.length
          · omega
          · rw [if_neg h3] at hk; cases hk
    · have := chkF_2 (f := f) (fun g => hk g.1)
      rw [h] at this; cases this
  · rw [h] at g; cases g
theorem getQ_mem {ls : List Qa} {w0 : World} {H : List Chunk} (h : ∀ y ∈ ls, FsOk w0 H y.x) (k : Nat) : FsOk w0 H (ls.getD k default).x := by
  rw [List.getD_eq_getElem?_getD]
  by_cases hk : k < ls.length
  · rw [List.getElem?_eq_getElem hk]; exact h _ (List.getElem_mem hk)
  · rw [List.getElem?_eq_none (by omega)]; exact FsOk.dflt
theorem great {w0 : World} {H : List Chunk} (ls : List Qa) (sa : Option Addr) (n c : Nat) (hR : ∀ H, Rd w0 H sa n c 13 (ls.flatMap QaC)) (hn : n = ls.length) (hm : n ≤ 4398046511000) : SC Try.prog w0 16 #[.slice sa n c] H (fun v H' => ∃ t, v = .bool t ∧ (t = false → n ≤ 200) ∧ H' = H) := by
 refine SC.enter Try.func16 rfl (Nat.le_of_ble_eq_true rfl) ?_
 refine SW.seq_k fun K0 hK0 => ?_
 refine SW.region _ _ _ _ ?_
 refine RL.p T ?_
 refine RL.nil _ _ _ _ ?_
 refine hK0 _ _ _ ?_
 refine SW.seq_k fun K1 hK1 => ?_
 refine SW.region _ _ _ _ ?_
 refine RL.p T ?_
 refine RL.nil _ _ _ _ ?_
 refine hK1 _ _ _ ?_
 refine SW.seq_k fun K2 hK2 => ?_
 refine SW.seq_k fun K3 hK3 => ?_
 refine SW.region _ _ _ _ ?_
 refine RL.p T ?_
 refine RL.p T ?_
 refine RL.p T ?_
 refine RL.nil _ _ _ _ ?_
 refine hK3 _ _ _ ?_
 refine SW.block ?_
 refine SW.loopM (fun frB mm fr ds HH => ∃ (k : Nat) (s : Int), mm = n - k ∧ (k ≤ n) ∧ FrIs [3, 5, 8, 9, 10, 11, 12, 13, 14, 15, 16, 17, 18] frB fr [(3, .int .i64 s), (8, .int .i64 k)] ∧ ds = [] ∧ HH = H) (n := n - 0) ?_ ?_
 ·exact ⟨0, 0, rfl, Nat.zero_le _, (.cons rfl (.consI rfl (by first | omega | rfl) (.nil (by repeat first | with_reducible exact Mx.refl | with_reducible exact Mx.mix | refine Mx.put rfl ?_ | refine Mx.upd rfl ?_ | refine Mx.updl rfl ?_ | refine Mx.fin rfl ?_ | refine Mx.inner rfl ?_ | refine Mx.none ?_ | exact Mx.refl | exact Mx.mix)))), rfl, rfl⟩
 ·rintro mm fr ds HH ⟨k, s, rfl, hk, hFr, rfl, eHH⟩
  obtain rfl := eHH.symm
  obtain ⟨frU, rfl⟩ := hFr.eq
  clear hFr
  refine SW.seq_k fun K4 hK4 => ?_
  refine SW.region _ _ _ _ ?_
  refine RL.p T ?_
  refine RL.nil _ _ _ _ ?_
  refine hK4 _ _ _ ?_
  refine SW.seq_k fun K5 hK5 => ?_
  refine SW.cs (fun hc0 => ?_) (fun hc0 => ?_)
  ·skip
   first
    | (exfalso; first | omega | contradiction | (clear hK5 K5; clear hK4 K4; clear hK3 K3; clear hK2 K2; clear hK1 K1; clear hK0 K0; simp at *; done))
    | (
     refine SW.skip ?_
     refine hK5 _ _ _ ?_
     refine SW.seq_k fun K6 hK6 => ?_
     refine SW.block ?_
     refine SW.seq_k fun K7 hK7 => ?_
     refine SW.region _ _ _ _ ?_
     refine RL.ix T ?_ (hR := fun hs => (hR _))
     refine RL.leN T ?_ (hR := fun hs => (hR _)) (hvs := (by exact (rfl : _ = [_, _, _, _, _, _, _, _, _, _, _, _, _])))
     refine RL.s ?_
     refine NV.alloc T rfl rfl rfl (by exact (rfl : _ = [_, _, _, _, _, _, _, _, _, _, _, _, _])) ?_
     intro b5_0
     refine RL.s ?_
     refine NV.sN T rfl rfl rfl (by exact (rfl : _ = [_, _, _, _, _, _, _, _, _, _, _, _, _])) (by exact (rfl : _ = [_, _, _, _, _, _, _, _, _, _, _, _, _])) ?_
     refine RL.nil _ _ _ _ ?_
     refine hK7 _ _ _ ?_
     refine SW.region _ _ _ _ ?_
     refine RL.p T ?_
     refine RL.p T ?_
     refine RL.p T ?_
     refine RL.lv1 T ?_
     refine RL.p T ?_
     refine RL.p T ?_
     refine RL.p T ?_
     refine RL.nil _ _ _ _ ?_
     refine hK6 _ _ _ ?_
     refine SW.drop ?_
     refine SW.region _ _ _ _ ?_
     first | refine RL.ar ?_ | refine RL.p T ?_
     refine RL.p T ?_
     refine RL.nil _ _ _ _ ?_
     exact ⟨n - (k + 1), (by omega), k + 1, _, (by rfl), (by omega), (.cons rfl (.consI rfl (by first | omega | rfl) (.nil (by repeat first | with_reducible exact Mx.refl | with_reducible exact Mx.mix | refine Mx.put rfl ?_ | refine Mx.upd rfl ?_ | refine Mx.updl rfl ?_ | refine Mx.fin rfl ?_ | refine Mx.inner rfl ?_ | refine Mx.none ?_ | exact Mx.refl | exact Mx.mix)))), rfl, rfl⟩
     )
  ·skip
   first
    | (exfalso; first | omega | contradiction | (clear hK5 K5; clear hK4 K4; clear hK3 K3; clear hK2 K2; clear hK1 K1; clear hK0 K0; simp at *; done))
    | (
     refine SW.exit ?_
     refine hK2 _ _ _ ?_
     refine SW.seq_k fun K8 hK8 => ?_
     refine SW.region _ _ _ _ ?_
     refine RL.p T ?_
     refine RL.p T ?_
     refine RL.p T ?_
     refine RL.p T ?_
     refine RL.sp 22 (fun hs0 => ?_) (fun hs0 => ?_)
     ·skip
      first
       | (exfalso; first | omega | contradiction | (clear hK8 K8; clear hK5 K5; clear hK4 K4; clear hK3 K3; clear hK2 K2; clear hK1 K1; clear hK0 K0; simp at *; done))
       | (
        refine RL.guard_no rfl rfl rfl ?_
        refine RL.guard_no rfl rfl rfl ?_
        refine RL.p T ?_
        refine RL.p T ?_
        refine RL.nil _ _ _ _ ?_
        refine hK8 _ _ _ ?_
        refine SW.ret ?_
        refine retQ.rr (H) ?_
        clear hK8 K8 hK5 K5 hK4 K4 hK3 K3 hK2 K2 hK1 K1 hK0 K0
        first
          | exact ⟨_, rfl, (fun h => by cases h), rfl⟩
          | exact ⟨_, rfl, (fun _ => by omega), rfl⟩
        )
     ·skip
      first
       | (exfalso; first | omega | contradiction | (clear hK8 K8; clear hK5 K5; clear hK4 K4; clear hK3 K3; clear hK2 K2; clear hK1 K1; clear hK0 K0; simp at *; done))
       | (
        refine RL.p T ?_
        refine RL.p T ?_
        refine RL.p T ?_
        refine RL.p T ?_
        refine RL.nil _ _ _ _ ?_
        refine hK8 _ _ _ ?_
        refine SW.ret ?_
        refine retQ.rr (H) ?_
        clear hK8 K8 hK5 K5 hK4 K4 hK3 K3 hK2 K2 hK1 K1 hK0 K0
        first
          | exact ⟨_, rfl, (fun h => by cases h), rfl⟩
          | exact ⟨_, rfl, (fun _ => by omega), rfl⟩
        )
     )
theorem rhead_none {w0 : World} {H : List Chunk} (br : Nat) (room last : Int) (a : Option Addr) (c : Nat) : SC Try.prog w0 22 #[.pointer (some ⟨br, 0, none⟩)] (.var br 47 [.int .i64 room, .int .i64 last, .slice a 0 c] :: H) (fun v H' => v = .tuple #[ItA 0 default, .int .i64 9] ∧ H' = (.var br 47 [.int .i64 room, .int .i64 last, .slice a 0 c] :: H)) := by
 refine SC.enter Try.func22 rfl (Nat.le_of_ble_eq_true rfl) ?_
 refine SW.seq_k fun K0 hK0 => ?_
 refine SW.region _ _ _ _ ?_
 refine RL.s ?_
 refine NV.alloc T rfl rfl rfl (by exact (rfl : _ = [_, _, _, _, _, _, _, _, _, _, _, _])) ?_
 intro b2_0
 refine RL.p T ?_
 refine RL.nil _ _ _ _ ?_
 refine hK0 _ _ _ ?_
 refine SW.seq_k fun K1 hK1 => ?_
 refine SW.seq_k fun K2 hK2 => ?_
 refine SW.region _ _ _ _ ?_
 refine RL.p T ?_
 refine RL.p T ?_
 refine RL.p T ?_
 first | refine RL.lv1 T ?_ | refine RL.le T ?_
 refine RL.p T ?_
 refine RL.p T ?_
 refine RL.nil _ _ _ _ ?_
 refine hK2 _ _ _ ?_
 refine SW.cs (fun hc0 => ?_) (fun hc0 => ?_)
 ·skip
  first
   | (exfalso; first | omega | contradiction | (clear hK2 K2; clear hK1 K1; clear hK0 K0; simp at *; done))
   | (
    refine SW.seq_k fun K3 hK3 => ?_
    refine SW.region _ _ _ _ ?_
    refine RL.s ?_
    first | refine NV.buildc T rfl (rfl : _ = some [_, _, _, _, _, _, _, _, _, _, _, _]) ?_ | refine NV.buildz T rfl (rfl : _ = some [_, _, _, _, _, _, _, _, _, _, _, _]) ?_ | refine NV.pure T (rfl : _ = some (Value.agg #[_, _, _, _, _, _, _, _, _, _, _, _])) ?_
    refine RL.s ?_
    refine NV.sN T rfl rfl rfl (by exact (rfl : _ = [_, _, _, _, _, _, _, _, _, _, _, _])) (by exact (rfl : _ = [_, _, _, _, _, _, _, _, _, _, _, _])) ?_
    refine RL.p T ?_
    refine RL.nil _ _ _ _ ?_
    refine hK3 _ _ _ ?_
    refine SW.ret ?_
    refine retQ.ra ((.var br 47 [.int .i64 room, .int .i64 last, .slice a 0 c] :: H)) (RVs.cN T rfl rfl rfl rfl (by exact (rfl : _ = [_, _, _, _, _, _, _, _, _, _, _, _])) (RVs.t RVs.nil)) ?_
    clear hK3 K3 hK2 K2 hK1 K1 hK0 K0
    exact ⟨rfl, rfl⟩
    )
 ·skip
  first
   | (exfalso; first | omega | contradiction | (clear hK2 K2; clear hK1 K1; clear hK0 K0; simp at *; done))
   | (
    refine SW.skip ?_
    refine hK1 _ _ _ ?_
    refine SW.seq_k fun K4 hK4 => ?_
    refine SW.region _ _ _ _ ?_
    refine RL.p T ?_
    refine RL.p T ?_
    refine RL.p T ?_
    first | refine RL.lv1 T ?_ | refine RL.le T ?_
    refine RL.ix T ?_
    refine RL.leN T ?_ (hvs := (by exact (rfl : _ = [_, _, _, _, _, _, _, _, _, _, _, _])))
    refine RL.s ?_
    refine NV.sN T rfl rfl rfl (by exact (rfl : _ = [_, _, _, _, _, _, _, _, _, _, _, _])) (by exact (rfl : _ = [_, _, _, _, _, _, _, _, _, _, _, _])) ?_
    refine RL.p T ?_
    refine RL.nil _ _ _ _ ?_
    refine hK4 _ _ _ ?_
    refine SW.ret ?_
    refine retQ.ra ((.var br 47 [.int .i64 room, .int .i64 last, .slice a 0 c] :: H)) (RVs.cN T rfl rfl rfl rfl (by exact (rfl : _ = [_, _, _, _, _, _, _, _, _, _, _, _])) (RVs.t RVs.nil)) ?_
    clear hK4 K4 hK2 K2 hK1 K1 hK0 K0
    exact ⟨rfl, rfl⟩
    )
theorem rhead_ok {w0 : World} {H : List Chunk} (br : Nat) (room last : Int) (a : Option Addr) (n c : Nat) (M : List It) (hR : Rd w0 H a n c 12 (M.flatMap ItC)) (hn : n = M.length) (hm : n ≤ 100) (h0 : 0 < n) : SC Try.prog w0 22 #[.pointer (some ⟨br, 0, none⟩)] (.var br 47 [.int .i64 room, .int .i64 last, .slice a n c] :: H) (fun v H' => v = .tuple #[ItA (M.getD 0 default).no (M.getD 0 default).fs, .int .i64 0] ∧ H' = (.var br 47 [.int .i64 room, .int .i64 last, .slice a n c] :: H)) := by
 refine SC.enter Try.func22 rfl (Nat.le_of_ble_eq_true rfl) ?_
 refine SW.seq_k fun K0 hK0 => ?_
 refine SW.region _ _ _ _ ?_
 refine RL.s ?_
 refine NV.alloc T rfl rfl rfl (by exact (rfl : _ = [_, _, _, _, _, _, _, _, _, _, _, _])) ?_
 intro b2_0
 refine RL.p T ?_
 refine RL.nil _ _ _ _ ?_
 refine hK0 _ _ _ ?_
 refine SW.seq_k fun K1 hK1 => ?_
 refine SW.seq_k fun K2 hK2 => ?_
 refine SW.region _ _ _ _ ?_
 refine RL.p T ?_
 refine RL.p T ?_
 refine RL.p T ?_
 first | refine RL.lv1 T ?_ | refine RL.le T ?_ (hR := fun hs => (by repeat first | exact hR | apply Rd.cons | apply Rd.app)) (hv := (it_get (by omega)))
 refine RL.p T ?_
 refine RL.p T ?_
 refine RL.nil _ _ _ _ ?_
 refine hK2 _ _ _ ?_
 refine SW.cs (fun hc0 => ?_) (fun hc0 => ?_)
 ·skip
  first
   | (exfalso; first | omega | contradiction | (clear hK2 K2; clear hK1 K1; clear hK0 K0; simp at *; done))
   | (
    refine SW.seq_k fun K3 hK3 => ?_
    refine SW.region _ _ _ _ ?_
    refine RL.s ?_
    first | refine NV.buildc T rfl (rfl : _ = some [_, _, _, _, _, _, _, _, _, _, _, _]) ?_ | refine NV.buildz T rfl (rfl : _ = some [_, _, _, _, _, _, _, _, _, _, _, _]) ?_ | refine NV.pure T (rfl : _ = some (Value.agg #[_, _, _, _, _, _, _, _, _, _, _, _])) ?_
    refine RL.s ?_
    refine NV.sN T rfl rfl rfl (by exact (rfl : _ = [_, _, _, _, _, _, _, _, _, _, _, _])) (by exact (rfl : _ = [_, _, _, _, _, _, _, _, _, _, _, _])) ?_
    refine RL.p T ?_
    refine RL.nil _ _ _ _ ?_
    refine hK3 _ _ _ ?_
    refine SW.ret ?_
    refine retQ.ra ((.var br 47 [.int .i64 room, .int .i64 last, .slice a n c] :: H)) (RVs.cN T rfl rfl rfl rfl (by exact (rfl : _ = [_, _, _, _, _, _, _, _, _, _, _, _])) (RVs.t RVs.nil)) ?_
    clear hK3 K3 hK2 K2 hK1 K1 hK0 K0
    exact ⟨rfl, rfl⟩
    )
 ·skip
  first
   | (exfalso; first | omega | contradiction | (clear hK2 K2; clear hK1 K1; clear hK0 K0; simp at *; done))
   | (
    refine SW.skip ?_
    refine hK1 _ _ _ ?_
    refine SW.seq_k fun K4 hK4 => ?_
    refine SW.region _ _ _ _ ?_
    refine RL.p T ?_
    refine RL.p T ?_
    refine RL.p T ?_
    first | refine RL.lv1 T ?_ | refine RL.le T ?_ (hR := fun hs => (by repeat first | exact hR | apply Rd.cons | apply Rd.app)) (hv := (it_get (by omega)))
    refine RL.ix T ?_ (hR := fun hs => (by repeat first | exact hR | apply Rd.cons | apply Rd.app))
    refine RL.leN T ?_ (hR := fun hs => (by repeat first | exact hR | apply Rd.cons | apply Rd.app)) (hvs := (by exact (rfl : _ = [_, _, _, _, _, _, _, _, _, _, _, _])))
    refine RL.s ?_
    refine NV.sN T rfl rfl rfl (by exact (rfl : _ = [_, _, _, _, _, _, _, _, _, _, _, _])) (by exact (rfl : _ = [_, _, _, _, _, _, _, _, _, _, _, _])) ?_
    refine RL.p T ?_
    refine RL.nil _ _ _ _ ?_
    refine hK4 _ _ _ ?_
    refine SW.ret ?_
    refine retQ.ra ((.var br 47 [.int .i64 room, .int .i64 last, .slice a n c] :: H)) (RVs.cN T rfl rfl rfl rfl (by exact (rfl : _ = [_, _, _, _, _, _, _, _, _, _, _, _])) (RVs.t RVs.nil)) ?_
    clear hK4 K4 hK2 K2 hK1 K1 hK0 K0
    exact ⟨rfl, rfl⟩
    )
theorem rtake_none {w0 : World} {H : List Chunk} (br : Nat) (room last : Int) (a : Option Addr) (c : Nat) : SC Try.prog w0 17 #[.pointer (some ⟨br, 0, none⟩)] (.var br 47 [.int .i64 room, .int .i64 last, .slice a 0 c] :: H) (fun v H' => v = .tuple #[ItA 0 default, .int .i64 9] ∧ H' = (.var br 47 [.int .i64 room, .int .i64 last, .slice a 0 c] :: H)) := by
 refine SC.enter Try.func17 rfl (Nat.le_of_ble_eq_true rfl) ?_
 refine SW.seq_k fun K0 hK0 => ?_
 refine SW.region _ _ _ _ ?_
 refine RL.s ?_
 refine NV.alloc T rfl rfl rfl (by exact (rfl : _ = [_, _, _, _, _, _, _, _, _, _, _, _])) ?_
 intro b2_0
 refine RL.p T ?_
 refine RL.nil _ _ _ _ ?_
 refine hK0 _ _ _ ?_
 refine SW.seq_k fun K1 hK1 => ?_
 refine SW.region _ _ _ _ ?_
 refine RL.p T ?_
 refine RL.c fun22 (fun hs => SC.wk (rhead_none br room last a c (H := .var b2_0 50 [.int .i64 0, .int .i64 0, .int .u32 0, .bool false, .bool false, .bool false, .bool false, .bool false, .int .u8 0, .int .u8 0, .int .u32 0, .slice none 0 0] :: H))) ?_
 rintro _ _ ⟨rfl, e⟩; obtain rfl := e.symm
 refine RL.p T ?_
 refine RL.p T ?_
 refine RL.p T ?_
 refine RL.s ?_
 refine NV.alloc T rfl rfl rfl (by exact (rfl : _ = [_, _, _, _, _, _, _, _, _, _, _, _])) ?_
 intro b4_1
 refine RL.s ?_
 refine NV.sN T rfl rfl rfl (by exact (rfl : _ = [_, _, _, _, _, _, _, _, _, _, _, _])) (by exact (rfl : _ = [_, _, _, _, _, _, _, _, _, _, _, _])) ?_
 refine RL.p T ?_
 refine RL.nil _ _ _ _ ?_
 refine hK1 _ _ _ ?_
 refine SW.seq_k fun K2 hK2 => ?_
 refine SW.seq_k fun K3 hK3 => ?_
 refine SW.region _ _ _ _ ?_
 refine RL.p T ?_
 refine RL.p T ?_
 refine RL.nil _ _ _ _ ?_
 refine hK3 _ _ _ ?_
 refine SW.cs (fun hc0 => ?_) (fun hc0 => ?_)
 ·skip
  first
   | (exfalso; first | omega | contradiction | (clear hK3 K3; clear hK2 K2; clear hK1 K1; clear hK0 K0; simp at *; done))
   | (
    refine SW.region _ _ _ _ ?_
    refine RL.p T ?_
    refine RL.p T ?_
    refine RL.p T ?_
    refine RL.p T ?_
    first | refine RL.lv1 T ?_ | refine RL.le T ?_
    refine RL.sl T ?_ (l1 := 1)
    refine RL.p T ?_
    refine RL.p T ?_
    refine RL.s ?_
    first
      | refine NV.store_var1 T rfl rfl rfl rfl (by conv => lhs; whnf) rfl (by repeat first | exact At.head _ _ | assumption | exact At.put (by assumption) _ | apply At.tail | apply At.app) rfl rfl ?_
      | refine NV.store_var T rfl rfl rfl (by exact (rfl : _ = [_])) rfl rfl (by repeat first | exact At.head _ _ | assumption | exact At.put (by assumption) _ | apply At.tail | apply At.app) (Nat.le_of_ble_eq_true rfl) rfl ?_
      | refine NV.store_elem T rfl rfl rfl rfl (by conv => lhs; whnf) rfl (by repeat first | exact At.head _ _ | assumption | exact At.put (by assumption) _ | apply At.tail | apply At.app) (by omega) ?_
    refine RL.nil _ _ _ _ ?_
    refine hK2 _ _ _ ?_
    refine SW.seq_k fun K4 hK4 => ?_
    refine SW.region _ _ _ _ ?_
    refine RL.q (QV.vN T rfl rfl rfl rfl rfl (by exact (rfl : _ = [_, _, _, _, _, _, _, _, _, _, _, _]))) ?_
    refine RL.p T ?_
    refine RL.s ?_
    refine NV.sN T rfl rfl rfl (by exact (rfl : _ = [_, _, _, _, _, _, _, _, _, _, _, _])) (by exact (rfl : _ = [_, _, _, _, _, _, _, _, _, _, _, _])) ?_
    refine RL.p T ?_
    refine RL.nil _ _ _ _ ?_
    refine hK4 _ _ _ ?_
    refine SW.ret ?_
    refine retQ.ra ((.var br 47 [.int .i64 room, .int .i64 last, .slice a 0 c] :: H)) (RVs.cN T rfl rfl rfl rfl (by exact (rfl : _ = [_, _, _, _, _, _, _, _, _, _, _, _])) (RVs.t RVs.nil)) ?_
    clear hK4 K4 hK3 K3 hK2 K2 hK1 K1 hK0 K0
    exact ⟨rfl, rfl⟩
    )
 ·skip
  first
   | (exfalso; first | omega | contradiction | (clear hK3 K3; clear hK2 K2; clear hK1 K1; clear hK0 K0; simp at *; done))
   | (
    refine SW.skip ?_
    refine hK2 _ _ _ ?_
    refine SW.seq_k fun K5 hK5 => ?_
    refine SW.region _ _ _ _ ?_
    refine RL.q (QV.vN T rfl rfl rfl rfl rfl (by exact (rfl : _ = [_, _, _, _, _, _, _, _, _, _, _, _]))) ?_
    refine RL.p T ?_
    refine RL.s ?_
    refine NV.sN T rfl rfl rfl (by exact (rfl : _ = [_, _, _, _, _, _, _, _, _, _, _, _])) (by exact (rfl : _ = [_, _, _, _, _, _, _, _, _, _, _, _])) ?_
    refine RL.p T ?_
    refine RL.nil _ _ _ _ ?_
    refine hK5 _ _ _ ?_
    refine SW.ret ?_
    refine retQ.ra ((.var br 47 [.int .i64 room, .int .i64 last, .slice a 0 c] :: H)) (RVs.cN T rfl rfl rfl rfl (by exact (rfl : _ = [_, _, _, _, _, _, _, _, _, _, _, _])) (RVs.t RVs.nil)) ?_
    clear hK5 K5 hK3 K3 hK2 K2 hK1 K1 hK0 K0
    exact ⟨rfl, rfl⟩
    )
theorem rtake_ok {w0 : World} {H : List Chunk} (br : Nat) (room last : Int) (a : Option Addr) (n c : Nat) (M : List It) (hR : Rd w0 H a n c 12 (M.flatMap ItC)) (hn : n = M.length) (hm : n ≤ 100) (h0 : 0 < n) : SC Try.prog w0 17 #[.pointer (some ⟨br, 0, none⟩)] (.var br 47 [.int .i64 room, .int .i64 last, .slice a n c] :: H) (fun v H' => v = .tuple #[ItA (M.getD 0 default).no (M.getD 0 default).fs, .int .i64 0] ∧ H' = (.var br 47 [.int .i64 room, .int .i64 last, .slice (subA a 1 c 12) (n - 1) (c - 1)] :: H)) := by
 refine SC.enter Try.func17 rfl (Nat.le_of_ble_eq_true rfl) ?_
 refine SW.seq_k fun K0 hK0 => ?_
 refine SW.region _ _ _ _ ?_
 refine RL.s ?_
 refine NV.alloc T rfl rfl rfl (by exact (rfl : _ = [_, _, _, _, _, _, _, _, _, _, _, _])) ?_
 intro b2_0
 refine RL.p T ?_
 refine RL.nil _ _ _ _ ?_
 refine hK0 _ _ _ ?_
 refine SW.seq_k fun K1 hK1 => ?_
 refine SW.region _ _ _ _ ?_
 refine RL.p T ?_
 refine RL.c fun22 (fun hs => SC.wk (rhead_ok br room last a n c M (by repeat first | exact hR | apply Rd.cons) hn hm h0 (H := .var b2_0 50 [.int .i64 0, .int .i64 0, .int .u32 0, .bool false, .bool false, .bool false, .bool false, .bool false, .int .u8 0, .int .u8 0, .int .u32 0, .slice none 0 0] :: H))) ?_
 rintro _ _ ⟨rfl, e⟩; obtain rfl := e.symm
 refine RL.p T ?_
 refine RL.p T ?_
 refine RL.p T ?_
 refine RL.s ?_
 refine NV.alloc T rfl rfl rfl (by exact (rfl : _ = [_, _, _, _, _, _, _, _, _, _, _, _])) ?_
 intro b4_1
 refine RL.s ?_
 refine NV.sN T rfl rfl rfl (by exact (rfl : _ = [_, _, _, _, _, _, _, _, _, _, _, _])) (by exact (rfl : _ = [_, _, _, _, _, _, _, _, _, _, _, _])) ?_
 refine RL.p T ?_
 refine RL.nil _ _ _ _ ?_
 refine hK1 _ _ _ ?_
 refine SW.seq_k fun K2 hK2 => ?_
 refine SW.seq_k fun K3 hK3 => ?_
 refine SW.region _ _ _ _ ?_
 refine RL.p T ?_
 refine RL.p T ?_
 refine RL.nil _ _ _ _ ?_
 refine hK3 _ _ _ ?_
 refine SW.cs (fun hc0 => ?_) (fun hc0 => ?_)
 ·skip
  first
   | (exfalso; first | omega | contradiction | (clear hK3 K3; clear hK2 K2; clear hK1 K1; clear hK0 K0; simp at *; done))
   | (
    refine SW.region _ _ _ _ ?_
    refine RL.p T ?_
    refine RL.p T ?_
    refine RL.p T ?_
    refine RL.p T ?_
    first | refine RL.lv1 T ?_ | refine RL.le T ?_ (hR := fun hs => (by repeat first | exact hR | apply Rd.cons | apply Rd.app))
    refine RL.sl T ?_ (l1 := 1)
    refine RL.p T ?_
    refine RL.p T ?_
    refine RL.s ?_
    first
      | refine NV.store_var1 T rfl rfl rfl rfl (by conv => lhs; whnf) rfl (by repeat first | exact At.head _ _ | assumption | exact At.put (by assumption) _ | apply At.tail | apply At.app) rfl rfl ?_
      | refine NV.store_var T rfl rfl rfl (by exact (rfl : _ = [_])) rfl rfl (by repeat first | exact At.head _ _ | assumption | exact At.put (by assumption) _ | apply At.tail | apply At.app) (Nat.le_of_ble_eq_true rfl) rfl ?_
      | refine NV.store_elem T rfl rfl rfl rfl (by conv => lhs; whnf) rfl (by repeat first | exact At.head _ _ | assumption | exact At.put (by assumption) _ | apply At.tail | apply At.app) (by omega) ?_
    refine RL.nil _ _ _ _ ?_
    refine hK2 _ _ _ ?_
    refine SW.seq_k fun K4 hK4 => ?_
    refine SW.region _ _ _ _ ?_
    refine RL.q (QV.vN T rfl rfl rfl rfl rfl (by exact (rfl : _ = [_, _, _, _, _, _, _, _, _, _, _, _]))) ?_
    refine RL.p T ?_
    refine RL.s ?_
    refine NV.sN T rfl rfl rfl (by exact (rfl : _ = [_, _, _, _, _, _, _, _, _, _, _, _])) (by exact (rfl : _ = [_, _, _, _, _, _, _, _, _, _, _, _])) ?_
    refine RL.p T ?_
    refine RL.nil _ _ _ _ ?_
    refine hK4 _ _ _ ?_
    refine SW.ret ?_
    refine retQ.ra ((.var br 47 [.int .i64 room, .int .i64 last, .slice (subA a 1 c 12) (n - 1) (c - 1)] :: H)) (RVs.cN T rfl rfl rfl rfl (by exact (rfl : _ = [_, _, _, _, _, _, _, _, _, _, _, _])) (RVs.t RVs.nil)) ?_
    clear hK4 K4 hK3 K3 hK2 K2 hK1 K1 hK0 K0
    exact ⟨rfl, rfl⟩
    )
 ·skip
  first
   | (exfalso; first | omega | contradiction | (clear hK3 K3; clear hK2 K2; clear hK1 K1; clear hK0 K0; simp at *; done))
   | (
    refine SW.skip ?_
    refine hK2 _ _ _ ?_
    refine SW.seq_k fun K5 hK5 => ?_
    refine SW.region _ _ _ _ ?_
    refine RL.q (QV.vN T rfl rfl rfl rfl rfl (by exact (rfl : _ = [_, _, _, _, _, _, _, _, _, _, _, _]))) ?_
    refine RL.p T ?_
    refine RL.s ?_
    refine NV.sN T rfl rfl rfl (by exact (rfl : _ = [_, _, _, _, _, _, _, _, _, _, _, _])) (by exact (rfl : _ = [_, _, _, _, _, _, _, _, _, _, _, _])) ?_
    refine RL.p T ?_
    refine RL.nil _ _ _ _ ?_
    refine hK5 _ _ _ ?_
    refine SW.ret ?_
    refine retQ.ra ((.var br 47 [.int .i64 room, .int .i64 last, .slice (subA a 1 c 12) (n - 1) (c - 1)] :: H)) (RVs.cN T rfl rfl rfl rfl (by exact (rfl : _ = [_, _, _, _, _, _, _, _, _, _, _, _])) (RVs.t RVs.nil)) ?_
    clear hK5 K5 hK3 K3 hK2 K2 hK1 K1 hK0 K0
    exact ⟨rfl, rfl⟩
    )
theorem flatI_drop : ∀ (M : List It) (l : Nat), (M.flatMap ItC).drop (l * 12) = (M.drop l).flatMap ItC
  | M, 0 => by simp
  | [], l + 1 => by simp
  | i :: M, l + 1 => by
    have h : (ItC i).length = 12 := rfl
    rw [List.flatMap_cons, show (l + 1) * 12 = 12 + l * 12 by omega, ← List.drop_drop, List.drop_left' h, flatI_drop M l]; rfl
theorem flatI_take : ∀ (M : List It) (l : Nat), (M.flatMap ItC).take (l * 12) = (M.take l).flatMap ItC
  | M, 0 => by simp
  | [], l + 1 => by simp
  | i :: M, l + 1 => by
    have h : (ItC i).length = 12 := rfl
    rw [List.flatMap_cons, show (l + 1) * 12 = 12 + l * 12 by omega, List.take_add, List.take_left' h, List.drop_left' h, flatI_take M l]; rfl
theorem rdI {w0 : World} {H : List Chunk} {a : Option Addr} {n c l h : Nat} {M : List It} (hR : Rd w0 H a n c 12 (M.flatMap ItC)) (h1 : l ≤ h) (h2 : h ≤ n) : Rd w0 H (subA a l c 12) (h - l) (c - l) 12 (((M.drop l).take (h - l)).flatMap ItC) := by
  have := Rd.sub hR h1 h2
  rwa [flatI_drop, flatI_take] at this
theorem rdD {w0 : World} {H : List Chunk} {a : Option Addr} {n c l : Nat} {M : List It} (hR : Rd w0 H a n c 12 (M.flatMap ItC)) (hn : n = M.length) (h1 : l ≤ n) : Rd w0 H (subA a l c 12) (n - l) (c - l) 12 ((M.drop l).flatMap ItC) := by
  have := rdI hR h1 (Nat.le_refl n)
  rwa [List.take_of_length_le (by rw [List.length_drop]; omega)] at this
theorem rdT {w0 : World} {H : List Chunk} {a : Option Addr} {n c h : Nat} {M : List It} (hR : Rd w0 H a n c 12 (M.flatMap ItC)) (h1 : h ≤ n) : Rd w0 H (subA a 0 c 12) (h - 0) (c - 0) 12 ((M.take h).flatMap ItC) := rdI hR (Nat.zero_le _) h1
theorem rcancel {w0 : World} {H : List Chunk} (br : Nat) (room last : Int) (a : Option Addr) (n c : Nat) (M : List It) (hR : Rd w0 H a n c 12 (M.flatMap ItC)) (hn : n = M.length) (hm : n ≤ 100) (no : Int) : SC Try.prog w0 20 #[.pointer (some ⟨br, 0, none⟩), .int .i64 no] (.var br 47 [.int .i64 room, .int .i64 last, .slice a n c] :: H) (fun v H' => ∃ (er : Int) (a' : Option Addr) (n' c' : Nat) (M' : List It) (D : List Chunk), v = .int .i64 er ∧ H' = (.var br 47 [.int .i64 room, .int .i64 last, .slice a' n' c'] :: (D ++ H)) ∧ n' = M'.length ∧ (∀ G, Rd w0 G a n c 12 (M.flatMap ItC) → Rd w0 (D ++ G) a' n' c' 12 (M'.flatMap ItC)) ∧ ((er = 9 ∧ M' = M ∧ ∀ j, j < n → (M.getD j default).no ≠ no) ∨ (er = 0 ∧ ∃ i, i < n ∧ (M.getD i default).no = no ∧ M' = M.take i ++ M.drop (i + 1)))) := by
 refine SC.enter Try.func20 rfl (Nat.le_of_ble_eq_true rfl) ?_
 refine SW.seq_k fun K0 hK0 => ?_
 refine SW.region _ _ _ _ ?_
 refine RL.p T ?_
 refine RL.nil _ _ _ _ ?_
 refine hK0 _ _ _ ?_
 refine SW.seq_k fun K1 hK1 => ?_
 refine SW.seq_k fun K2 hK2 => ?_
 refine SW.region _ _ _ _ ?_
 refine RL.p T ?_
 refine RL.p T ?_
 refine RL.p T ?_
 first | refine RL.lv1 T ?_ | refine RL.le T ?_ (hR := fun hs => (by repeat first | exact hR | apply Rd.cons | apply Rd.app)) (hv := (it_get (by omega)))
 refine RL.p T ?_
 refine RL.p T ?_
 refine RL.nil _ _ _ _ ?_
 refine hK2 _ _ _ ?_
 refine SW.block ?_
 refine SW.loopM (fun frB mm fr ds HH => ∃ (k : Nat) , mm = n - k ∧ (k ≤ n ∧ (∀ j, j < k → (M.getD j default).no ≠ no)) ∧ FrIs [4, 5, 6, 12, 13, 14, 15, 16, 17, 18, 19, 20, 21, 22, 23, 24, 25, 26, 27, 28, 29, 30, 31, 32, 33, 34, 35, 36, 37, 38, 39, 40] frB fr [(12, .int .i64 k)] ∧ ds = [] ∧ HH = (.var br 47 [.int .i64 room, .int .i64 last, .slice a n c] :: H)) (n := n - 0) ?_ ?_
 ·exact ⟨0, rfl, ⟨Nat.zero_le _, fun j h => absurd h (Nat.not_lt_zero _)⟩, (.cons rfl (.nil (by repeat first | with_reducible exact Mx.refl | with_reducible exact Mx.mix | refine Mx.put rfl ?_ | refine Mx.upd rfl ?_ | refine Mx.updl rfl ?_ | refine Mx.fin rfl ?_ | refine Mx.inner rfl ?_ | refine Mx.none ?_ | exact Mx.refl | exact Mx.mix))), rfl, rfl⟩
 ·rintro mm fr ds HH ⟨k, rfl, ⟨hk, hb⟩, hFr, rfl, eHH⟩
  obtain rfl := eHH.symm
  obtain ⟨frU, rfl⟩ := hFr.eq
  clear hFr
  refine SW.seq_k fun K3 hK3 => ?_
  refine SW.region _ _ _ _ ?_
  refine RL.p T ?_
  refine RL.nil _ _ _ _ ?_
  refine hK3 _ _ _ ?_
  refine SW.seq_k fun K4 hK4 => ?_
  refine SW.cs (fun hc0 => ?_) (fun hc0 => ?_)
  ·skip
   first
    | (exfalso; first | omega | contradiction | (clear hK4 K4; clear hK3 K3; clear hK2 K2; clear hK1 K1; clear hK0 K0; simp at *; done))
    | (
     refine SW.skip ?_
     refine hK4 _ _ _ ?_
     refine SW.seq_k fun K5 hK5 => ?_
     refine SW.block ?_
     refine SW.seq_k fun K6 hK6 => ?_
     refine SW.region _ _ _ _ ?_
     refine RL.p T ?_
     refine RL.ix T ?_ (hR := fun hs => (by repeat first | exact hR | apply Rd.cons | apply Rd.app))
     refine RL.leN T ?_ (hR := fun hs => (by repeat first | exact hR | apply Rd.cons | apply Rd.app)) (hvs := (by exact (rfl : _ = [_, _, _, _, _, _, _, _, _, _, _, _])))
     refine RL.s ?_
     refine NV.alloc T rfl rfl rfl (by exact (rfl : _ = [_, _, _, _, _, _, _, _, _, _, _, _])) ?_
     intro b6_0
     refine RL.p T ?_
     refine RL.s ?_
     refine NV.sN T rfl rfl rfl (by exact (rfl : _ = [_, _, _, _, _, _, _, _, _, _, _, _])) (by exact (rfl : _ = [_, _, _, _, _, _, _, _, _, _, _, _])) ?_
     refine RL.nil _ _ _ _ ?_
     refine hK6 _ _ _ ?_
     refine SW.seq_k fun K7 hK7 => ?_
     refine SW.region _ _ _ _ ?_
     refine RL.p T ?_
     refine RL.lv1 T ?_
     refine RL.p T ?_
     refine RL.p T ?_
     refine RL.nil _ _ _ _ ?_
     refine hK7 _ _ _ ?_
     refine SW.cs (fun hc1 => ?_) (fun hc1 => ?_)
     ·skip
      first
       | (exfalso; first | omega | contradiction | (clear hK7 K7; clear hK6 K6; clear hK5 K5; clear hK4 K4; clear hK3 K3; clear hK2 K2; clear hK1 K1; clear hK0 K0; simp at *; done))
       | (
        refine SW.seq_k fun K8 hK8 => ?_
        refine SW.draw [(21, 0), (22, 1), (23, 2), (24, 3), (25, 4), (26, 5), (27, 6), (28, 7), (29, 8), (30, 9), (31, 10), (32, 11), (33, 12), (34, 13), (35, 14), (36, 15), (37, 16), (38, 17), (39, 18)] [[], [], [], [2], [3, 2], [4, 3, 2], [], [5, 4, 3, 2, 6], [1, 7, 5, 4, 3, 2, 6], [], [9], [10, 9], [11, 10, 9], [], [13], [12, 11, 10, 9, 14, 13], [8, 1, 7, 5, 4, 3, 2, 6, 15, 12, 11, 10, 9, 14, 13], [0, 1, 2, 3, 4, 5, 6, 7, 8, 9, 10, 11, 12, 13, 14, 15, 16], [17, 0, 1, 2, 3, 4, 5, 6, 7, 8, 9, 10, 11, 12, 13, 14, 15, 16], [18, 17, 0, 1, 2, 3, 4, 5, 6, 7, 8, 9, 10, 11, 12, 13, 14, 15, 16]] mixed (by kernel_rfl) (by kernel_rfl) ?_
        refine RD.p T ?_
        refine RD.p T ?_
        refine RD.p T ?_
        refine RD.p T ?_
        refine RD.q rfl rfl (Gd.none rfl) (by first | exact QV.load_var1 T rfl rfl rfl rfl (by repeat first | exact At.head _ _ | assumption | exact At.put (by assumption) _ | apply At.tail | apply At.app) rfl | exact QV.load_varN T rfl rfl rfl rfl rfl (by repeat first | exact At.head _ _ | assumption | exact At.put (by assumption) _ | apply At.tail | apply At.app) (by exact (rfl : _ = [_])) rfl | exact QV.load_elem T rfl rfl rfl rfl (by repeat first | exact hR | apply Rd.cons | apply Rd.app) (it_get (by omega))) ?_
        refine RD.p T ?_
        refine RD.q rfl rfl (Gd.none rfl) (QV.sl T (l1 := 0) (h1 := k)) ?_
        refine RD.p T ?_
        refine RD.p T ?_
        refine RD.p T ?_
        refine RD.q rfl rfl (Gd.none rfl) (by first | exact QV.load_var1 T rfl rfl rfl rfl (by repeat first | exact At.head _ _ | assumption | exact At.put (by assumption) _ | apply At.tail | apply At.app) rfl | exact QV.load_varN T rfl rfl rfl rfl rfl (by repeat first | exact At.head _ _ | assumption | exact At.put (by assumption) _ | apply At.tail | apply At.app) (by exact (rfl : _ = [_])) rfl | exact QV.load_elem T rfl rfl rfl rfl (by repeat first | exact hR | apply Rd.cons | apply Rd.app) (it_get (by omega))) ?_
        refine RD.p T ?_
        refine RD.q rfl rfl (Gd.none rfl) (by first | exact QV.arith rfl rfl rfl rfl (by omega) (by omega) | exact QV.arith_u8 rfl rfl rfl rfl (by omega) (by omega) | exact QV.arith_u16 rfl rfl rfl rfl (by omega) (by omega) | exact QV.arith_u32 rfl rfl rfl rfl (by omega) (by omega) | exact QV.arith_u64 rfl rfl rfl rfl (by omega) (by omega) | exact pev_sound T rfl) ?_
        refine RD.q rfl rfl (Gd.none rfl) (QV.sl T (l1 := k + 1) (h1 := n)) ?_
        refine RD.nv rfl rfl rfl (Gd.none rfl) ?_
        refine NV.buildSlice T rfl rfl rfl (Nat.le_of_ble_eq_true rfl) (by exact (rfl : _ = some [])) ?_
        intro b22_1
        refine ⟨(Stab.cons rfl (Gd.none rfl) (QV.sl T (l1 := k + 1) (h1 := n)) (Stab.cons rfl (Gd.none rfl) (by first | exact pev_sound T rfl | exact QV.arith rfl rfl rfl rfl (by omega) (by omega) | exact QV.arith_u8 rfl rfl rfl rfl (by omega) (by omega) | exact QV.arith_u16 rfl rfl rfl rfl (by omega) (by omega) | exact QV.arith_u32 rfl rfl rfl rfl (by omega) (by omega) | exact QV.arith_u64 rfl rfl rfl rfl (by omega) (by omega) ) (Stab.cons rfl (Gd.none rfl) (pev_sound T rfl) (Stab.cons rfl (Gd.none rfl) (by first | exact QV.load_var1 T rfl rfl rfl rfl (by repeat first | exact At.head _ _ | assumption | exact At.put (by assumption) _ | apply At.tail | apply At.app) rfl | exact QV.load_varN T rfl rfl rfl rfl rfl (by repeat first | exact At.head _ _ | assumption | exact At.put (by assumption) _ | apply At.tail | apply At.app) rfl rfl | exact QV.load_elem T rfl rfl rfl rfl (by repeat first | exact hR | apply Rd.cons | apply Rd.app) (it_get (by omega))) (Stab.cons rfl (Gd.none rfl) (pev_sound T rfl) (Stab.cons rfl (Gd.none rfl) (pev_sound T rfl) (Stab.cons rfl (Gd.none rfl) (pev_sound T rfl) (Stab.cons rfl (Gd.none rfl) (QV.sl T (l1 := 0) (h1 := k)) (Stab.cons rfl (Gd.none rfl) (pev_sound T rfl) (Stab.cons rfl (Gd.none rfl) (by first | exact QV.load_var1 T rfl rfl rfl rfl (by repeat first | exact At.head _ _ | assumption | exact At.put (by assumption) _ | apply At.tail | apply At.app) rfl | exact QV.load_varN T rfl rfl rfl rfl rfl (by repeat first | exact At.head _ _ | assumption | exact At.put (by assumption) _ | apply At.tail | apply At.app) rfl rfl | exact QV.load_elem T rfl rfl rfl rfl (by repeat first | exact hR | apply Rd.cons | apply Rd.app) (it_get (by omega))) (Stab.cons rfl (Gd.none rfl) (pev_sound T rfl) (Stab.cons rfl (Gd.none rfl) (pev_sound T rfl) (Stab.cons rfl (Gd.none rfl) (pev_sound T rfl) (Stab.cons rfl (Gd.none rfl) (pev_sound T rfl) Stab.nil)))))))))))))), ?_⟩
        refine RD.nv rfl rfl rfl (Gd.none rfl) ?_
        refine NV.apR (enc := ItC) T [] (ys := M.take k) (fun aq cq => ?_) (hR := fun hs => rdT (h := k) (by repeat first | exact hR | apply Rd.cons | apply Rd.app) (by omega))
        refine ⟨(Stab.cons rfl (Gd.none rfl) (QV.sl T (l1 := k + 1) (h1 := n)) (Stab.cons rfl (Gd.none rfl) (by first | exact pev_sound T rfl | exact QV.arith rfl rfl rfl rfl (by omega) (by omega) | exact QV.arith_u8 rfl rfl rfl rfl (by omega) (by omega) | exact QV.arith_u16 rfl rfl rfl rfl (by omega) (by omega) | exact QV.arith_u32 rfl rfl rfl rfl (by omega) (by omega) | exact QV.arith_u64 rfl rfl rfl rfl (by omega) (by omega) ) (Stab.cons rfl (Gd.none rfl) (pev_sound T rfl) (Stab.cons rfl (Gd.none rfl) (by first | exact QV.load_var1 T rfl rfl rfl rfl (by repeat first | exact At.head _ _ | assumption | exact At.put (by assumption) _ | apply At.tail | apply At.app) rfl | exact QV.load_varN T rfl rfl rfl rfl rfl (by repeat first | exact At.head _ _ | assumption | exact At.put (by assumption) _ | apply At.tail | apply At.app) rfl rfl | exact QV.load_elem T rfl rfl rfl rfl (by repeat first | exact hR | apply Rd.cons | apply Rd.app) (it_get (by omega))) (Stab.cons rfl (Gd.none rfl) (pev_sound T rfl) (Stab.cons rfl (Gd.none rfl) (pev_sound T rfl) (Stab.cons rfl (Gd.none rfl) (pev_sound T rfl) (Stab.cons rfl (Gd.none rfl) (pev_sound T rfl) Stab.nil)))))))), ?_⟩
        refine RD.nv rfl rfl rfl (Gd.none rfl) ?_
        refine NV.apR (enc := ItC) T ([] ++ M.take k) (ys := M.drop (k + 1)) (fun a1 c1 => ?_) (hR := fun hs => rdD (l := k + 1) (by repeat first | exact hR | apply Rd.cons | apply Rd.app) hn (by omega))
        refine ⟨(Stab.cons rfl (Gd.none rfl) (pev_sound T rfl) Stab.nil), ?_⟩
        refine RD.p T ?_
        refine RD.p T ?_
        refine RD.nv rfl rfl rfl (Gd.none rfl) ?_
        first
          | refine NV.store_var1 T rfl rfl rfl rfl (by conv => lhs; whnf) rfl (by repeat first | exact At.head _ _ | assumption | exact At.put (by assumption) _ | apply At.tail | apply At.app) rfl rfl ?_
          | refine NV.store_var T rfl rfl rfl (by exact (rfl : _ = [_])) rfl rfl (by repeat first | exact At.head _ _ | assumption | exact At.put (by assumption) _ | apply At.tail | apply At.app) (Nat.le_of_ble_eq_true rfl) rfl ?_
          | refine NV.store_elem T rfl rfl rfl rfl (by conv => lhs; whnf) rfl (by repeat first | exact At.head _ _ | assumption | exact At.put (by assumption) _ | apply At.tail | apply At.app) (by omega) ?_
        refine ⟨Stab.nil, ?_⟩
        refine RD.k rfl rfl ?_
        refine hK8 _ _ _ ?_
        refine SW.seq_k fun K9 hK9 => ?_
        refine SW.region _ _ _ _ ?_
        refine RL.p T ?_
        refine RL.nil _ _ _ _ ?_
        refine hK9 _ _ _ ?_
        refine SW.sat (fun hs => ?_)
        refine SW.ret ?_
        refine retQ.wk ((.var br 47 [.int .i64 room, .int .i64 last, .slice a1 ((0 + (k - 0)) + (n - (k + 1))) c1]:: ([.row a1 ((0 + (k - 0)) + (n - (k + 1))) c1 50 12 ((([] ++ M.take k) ++ M.drop (k + 1)).flatMap ItC)] ++ H))) ?_
        refine retQ.rr _ ?_ (hH := fun w hw => hw)
        clear hK9 K9 hK8 K8 hK7 K7 hK6 K6 hK5 K5 hK4 K4 hK3 K3 hK2 K2 hK1 K1 hK0 K0
        first
          | (obtain rfl : n = k := by omega
             exact ⟨_, _, _, _, M, [], rfl, rfl, hn, (fun G h => h), .inl ⟨rfl, rfl, hb⟩⟩)
          | exact ⟨_, _, _, _, (([] ++ M.take k) ++ M.drop (k + 1)), [.row a1 ((0 + (k - 0)) + (n - (k + 1))) c1 50 12 ((([] ++ M.take k) ++ M.drop (k + 1)).flatMap ItC)], rfl, rfl, by simp; omega, (fun G _ => by
              have h := Rd.rowh (satl (G := [.row a1 ((0 + (k - 0)) + (n - (k + 1))) c1 50 12 ((([] ++ M.take k) ++ M.drop (k + 1)).flatMap ItC)]) hs) (At.head _ _)
              exact Rd.appr h), .inr ⟨rfl, k, by omega, by assumption, rfl⟩⟩
        )
     ·skip
      first
       | (exfalso; first | omega | contradiction | (clear hK7 K7; clear hK6 K6; clear hK5 K5; clear hK4 K4; clear hK3 K3; clear hK2 K2; clear hK1 K1; clear hK0 K0; simp at *; done))
       | (
        refine SW.skip ?_
        refine hK5 _ _ _ ?_
        refine SW.region _ _ _ _ ?_
        first | refine RL.ar ?_ | refine RL.p T ?_
        refine RL.p T ?_
        refine RL.wk (.var br 47 [.int .i64 room, .int .i64 last, .slice a n c] :: H) ?_
        refine RL.nil _ _ _ _ ?_
        exact ⟨n - (k + 1), (by omega), k + 1, (by rfl), ⟨by omega, fun j h => by
          rcases Nat.lt_or_eq_of_le (Nat.le_of_lt_succ h) with h1 | h1
          · exact hb j h1
          · rw [h1]; assumption⟩, (.cons rfl (.nil (by repeat first | with_reducible exact Mx.refl | with_reducible exact Mx.mix | refine Mx.put rfl ?_ | refine Mx.upd rfl ?_ | refine Mx.updl rfl ?_ | refine Mx.fin rfl ?_ | refine Mx.inner rfl ?_ | refine Mx.none ?_ | exact Mx.refl | exact Mx.mix))), rfl, rfl⟩
        )
     )
  ·skip
   first
    | (exfalso; first | omega | contradiction | (clear hK4 K4; clear hK3 K3; clear hK2 K2; clear hK1 K1; clear hK0 K0; simp at *; done))
    | (
     refine SW.exit ?_
     refine hK1 _ _ _ ?_
     refine SW.seq_k fun K10 hK10 => ?_
     refine SW.region _ _ _ _ ?_
     refine RL.p T ?_
     refine RL.nil _ _ _ _ ?_
     refine hK10 _ _ _ ?_
     refine SW.sat (fun hs => ?_)
     refine SW.ret ?_
     refine retQ.wk ((.var br 47 [.int .i64 room, .int .i64 last, .slice a n c] :: H)) ?_
     refine retQ.rr _ ?_ (hH := fun w hw => hw)
     clear hK10 K10 hK4 K4 hK3 K3 hK2 K2 hK1 K1 hK0 K0
     first
       | (obtain rfl : n = k := by omega
          exact ⟨_, _, _, _, M, [], rfl, rfl, hn, (fun G h => h), .inl ⟨rfl, rfl, hb⟩⟩)
       | exact ⟨_, _, _, _, (([] ++ M.take k) ++ M.drop (k + 1)), [.row a1 ((0 + (k - 0)) + (n - (k + 1))) c1 50 12 ((([] ++ M.take k) ++ M.drop (k + 1)).flatMap ItC)], rfl, rfl, by simp; omega, (fun G _ => by
           have h := Rd.rowh (satl (G := [.row a1 ((0 + (k - 0)) + (n - (k + 1))) c1 50 12 ((([] ++ M.take k) ++ M.drop (k + 1)).flatMap ItC)]) hs) (At.head _ _)
           exact Rd.appr h), .inr ⟨rfl, k, by omega, by assumption, rfl⟩⟩
     )
end Go.Proofs.Ytjemdjjmpgjieaa.M
