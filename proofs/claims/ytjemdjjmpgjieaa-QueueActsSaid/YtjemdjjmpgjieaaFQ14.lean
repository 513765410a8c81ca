import Derived.Test.YtjemdjjmpgjieaaProg
import Derived.Test.YtjemdjjmpgjieaaFP14
import Derived.Test.YtjemdjjmpgjieaaS26
import Derived.Test.YtjemdjjmpgjieaaS22
set_option linter.unusedVariables false
set_option linter.unusedSimpArgs false
namespace Go.Proofs.Ytjemdjjmpgjieaa.M
open Go Go.Sep Go.Proofs
set_option maxRecDepth 10000
set_option maxHeartbeats 2000000
theorem ins_start {M : List It} {n : Nat} (hn : n = M.length) (z : It) : ((([] : List It) ++ M) ++ [z]).length = n + 1 ∧ ((([] : List It) ++ M) ++ [z]).take n = M.take n ∧ ((([] : List It) ++ M) ++ [z]).drop (n + 1) = M.drop n := by
  subst hn
  refine ⟨by simp, by simp, ?_⟩
  rw [List.drop_of_length_le (by simp), List.drop_of_length_le (by simp)]
theorem ins_get {M X : List It} {i : Nat} (h : X.take i = M.take i) (h0 : 0 < i) : X.getD (i - 1) default = M.getD (i - 1) default := by
  have := congrArg (fun l => l.getD (i - 1) default) h
  simp only [List.getD_eq_getElem?_getD, List.getElem?_take, if_pos (show i - 1 < i by omega)] at this
  simpa only [List.getD_eq_getElem?_getD] using this
theorem drop_it {M : List It} {i : Nat} (h : i < M.length) : M.drop i = M.getD i default :: M.drop (i + 1) := by
  rw [List.drop_eq_getElem_cons h, List.getD_eq_getElem?_getD, List.getElem?_eq_getElem h]; rfl
theorem set_drop {X : List It} {i : Nat} {q : It} (h : i < X.length) : (X.set i q).drop i = q :: X.drop (i + 1) := by
  rw [drop_it (by simpa using h), List.getD_eq_getElem?_getD, List.getElem?_set_self h, List.drop_set_of_lt (by omega)]; rfl
theorem ins_step {M X : List It} {i n : Nat} (hn : n = M.length) (h0 : 0 < i) (hi : i ≤ n) (hl : X.length = n + 1) (ht : X.take i = M.take i) (hd : X.drop (i + 1) = M.drop i) :
    (X.set i (X.getD (i - 1) default)).length = n + 1 ∧ (X.set i (X.getD (i - 1) default)).take (i - 1) = M.take (i - 1) ∧ (X.set i (X.getD (i - 1) default)).drop (i - 1 + 1) = M.drop (i - 1) := by
  refine ⟨by simpa using hl, ?_, ?_⟩
  · rw [List.take_set_of_le (by omega)]
    have := congrArg (List.take (i - 1)) ht
    rwa [List.take_take, List.take_take, Nat.min_eq_left (by omega)] at this
  · rw [Nat.sub_add_cancel h0, set_drop (by omega), hd, ins_get ht h0, drop_it (M := M) (i := i - 1) (by omega), Nat.sub_add_cancel h0]
theorem ins_end {M X : List It} {i n : Nat} {q : It} (hi : i ≤ n) (hl : X.length = n + 1) (ht : X.take i = M.take i) (hd : X.drop (i + 1) = M.drop i) : X.set i q = M.take i ++ [q] ++ M.drop i := by
  have h1 := List.take_append_drop i (X.set i q)
  rw [set_drop (by omega), List.take_set_of_le (Nat.le_refl _), ht, hd] at h1
  rw [← h1, List.append_assoc]; rfl
theorem ins_key {M : List It} {i n : Nat} {K : Int} (h0 : 0 < i) (hk : ∀ j, i ≤ j → j < n → K < keyF (M.getD j default).fs.f) {q : It} (e : q = M.getD (i - 1) default) (h : ¬ cmpI (keyF q.fs.f) K ≤ 0) : ∀ j, i - 1 ≤ j → j < n → K < keyF (M.getD j default).fs.f := fun j h1 h2 => by
  rcases Nat.lt_or_ge j i with h3 | h3
  · obtain rfl : j = i - 1 := by omega
    rw [e, cmpI_le.1] at h
    omega
  · exact hk j h3 h2
theorem rput_bad {w0 : World} {H : List Chunk} (br : Nat) (room last : Int) (a : Option Addr) (n c : Nat) (M : List It) (hR : Rd w0 H a n c 12 (M.flatMap ItC)) (hn : n = M.length) (hm : n ≤ 100) (x : Fs) (hx : FsOk w0 H x) (hc : chkF x.f ≠ 0) : SC Try.prog w0 23 #[.pointer (some ⟨br, 0, none⟩), FsA x] (.var br 47 [.int .i64 room, .int .i64 last, .slice a n c] :: H) (fun v H' => v = .tuple #[.int .i64 0, .int .i64 2] ∧ H' = (.var br 47 [.int .i64 room, .int .i64 last, .slice a n c] :: H)) := by
 refine SC.enter Try.func23 rfl (Nat.le_of_ble_eq_true rfl) ?_
 refine SW.seq_k fun K0 hK0 => ?_
 refine SW.region _ _ _ _ ?_
 refine RL.s ?_
 refine NV.box rfl (by exact (rfl : _ = [_, _, _, _, _, _, _, _, _, _, _])) ?_
 intro b3_0
 refine RL.p T ?_
 refine RL.p T ?_
 refine RL.nil _ _ _ _ ?_
 refine hK0 _ _ _ ?_
 refine SW.seq_k fun K1 hK1 => ?_
 refine SW.seq_k fun K2 hK2 => ?_
 refine SW.region _ _ _ _ ?_
 refine RL.q (QV.vN T rfl rfl rfl rfl rfl (by exact (rfl : _ = [_, _, _, _, _, _, _, _, _, _, _]))) ?_
 refine RL.c fun41 (fun hs => rfcheck x.f x.a x.n x.c (by repeat first | exact hx.rd | apply Rd.cons | apply Rd.app) hx.len hx.max hx.ok) ?_
 rintro _ _ ⟨rfl, e⟩; obtain rfl := e.symm
 refine RL.p T ?_
 refine RL.nil _ _ _ _ ?_
 refine hK2 _ _ _ ?_
 refine SW.cs (fun hc0 => ?_) (fun hc0 => ?_)
 ·skip
  first
   | (exfalso; first | omega | contradiction | (clear hK2 K2; clear hK1 K1; clear hK0 K0; simp at *; done))
   | (
    refine SW.seq_k fun K3 hK3 => ?_
    refine SW.region _ _ _ _ ?_
    refine RL.p T ?_
    refine RL.p T ?_
    refine RL.nil _ _ _ _ ?_
    refine hK3 _ _ _ ?_
    refine SW.ret ?_
    refine retQ.wk ((.var br 47 [.int .i64 room, .int .i64 last, .slice a n c] :: H)) ?_
    refine retQ.rr _ ?_ (hH := fun w hw => hw)
    clear hK3 K3 hK2 K2 hK1 K1 hK0 K0
    exact ⟨rfl, rfl⟩
    )
 ·skip
  first
   | (exfalso; first | omega | contradiction | (clear hK2 K2; clear hK1 K1; clear hK0 K0; simp at *; done))
   | (
    refine SW.skip ?_
    refine hK1 _ _ _ ?_
    refine SW.seq_k fun K4 hK4 => ?_
    refine SW.seq_k fun K5 hK5 => ?_
    refine SW.drawQ [(12, 0), (13, 1), (14, 2), (15, 3), (16, 4), (17, 5), (18, 6), (19, 7), (20, 8), (21, 9)] [[], [0], [1, 0], [2, 1, 0], [3, 2, 1, 0], [], [5], [6, 5], [7, 6, 5], [4, 3, 2, 1, 0, 8, 7, 6, 5]] mixed (by kernel_rfl) (by kernel_rfl) ?_
    refine QL.p T ?_
    refine QL.p T ?_
    refine QL.p T ?_
    first | refine QL.lv1 T ?_ | refine QL.le T ?_
    refine QL.p T ?_
    refine QL.p T ?_
    refine QL.p T ?_
    refine QL.p T ?_
    first | refine QL.lv1 T ?_ | refine QL.le T ?_
    refine QL.p T ?_
    refine QL.nil ?_
    refine hK5 _ _ _ ?_
    refine SW.cs (fun hc1 => ?_) (fun hc1 => ?_)
    ·skip
     first
      | (exfalso; first | omega | contradiction | (clear hK5 K5; clear hK4 K4; clear hK2 K2; clear hK1 K1; clear hK0 K0; simp at *; done))
      | (
       refine SW.seq_k fun K6 hK6 => ?_
       refine SW.region _ _ _ _ ?_
       refine RL.p T ?_
       refine RL.p T ?_
       refine RL.nil _ _ _ _ ?_
       refine hK6 _ _ _ ?_
       refine SW.ret ?_
       refine retQ.wk ((.var br 47 [.int .i64 room, .int .i64 last, .slice a n c] :: H)) ?_
       refine retQ.rr _ ?_ (hH := fun w hw => hw)
       clear hK6 K6 hK5 K5 hK4 K4 hK2 K2 hK1 K1 hK0 K0
       exact ⟨rfl, rfl⟩
       )
    ·skip
     exfalso; first | omega | contradiction | (clear hK5 K5; clear hK4 K4; clear hK2 K2; clear hK1 K1; clear hK0 K0; simp at *; done)
    )
theorem rput_full {w0 : World} {H : List Chunk} (br : Nat) (room last : Int) (a : Option Addr) (n c : Nat) (M : List It) (hR : Rd w0 H a n c 12 (M.flatMap ItC)) (hn : n = M.length) (hm : n ≤ 100) (x : Fs) (hx : FsOk w0 H x) (hc : chkF x.f = 0) (hf : room ≤ n) : SC Try.prog w0 23 #[.pointer (some ⟨br, 0, none⟩), FsA x] (.var br 47 [.int .i64 room, .int .i64 last, .slice a n c] :: H) (fun v H' => v = .tuple #[.int .i64 0, .int .i64 8] ∧ H' = (.var br 47 [.int .i64 room, .int .i64 last, .slice a n c] :: H)) := by
 refine SC.enter Try.func23 rfl (Nat.le_of_ble_eq_true rfl) ?_
 refine SW.seq_k fun K0 hK0 => ?_
 refine SW.region _ _ _ _ ?_
 refine RL.s ?_
 refine NV.box rfl (by exact (rfl : _ = [_, _, _, _, _, _, _, _, _, _, _])) ?_
 intro b3_0
 refine RL.p T ?_
 refine RL.p T ?_
 refine RL.nil _ _ _ _ ?_
 refine hK0 _ _ _ ?_
 refine SW.seq_k fun K1 hK1 => ?_
 refine SW.seq_k fun K2 hK2 => ?_
 refine SW.region _ _ _ _ ?_
 refine RL.q (QV.vN T rfl rfl rfl rfl rfl (by exact (rfl : _ = [_, _, _, _, _, _, _, _, _, _, _]))) ?_
 refine RL.c fun41 (fun hs => rfcheck x.f x.a x.n x.c (by repeat first | exact hx.rd | apply Rd.cons | apply Rd.app) hx.len hx.max hx.ok) ?_
 rintro _ _ ⟨rfl, e⟩; obtain rfl := e.symm
 refine RL.p T ?_
 refine RL.nil _ _ _ _ ?_
 refine hK2 _ _ _ ?_
 refine SW.cs (fun hc0 => ?_) (fun hc0 => ?_)
 ·skip
  first
   | (exfalso; first | omega | contradiction | (clear hK2 K2; clear hK1 K1; clear hK0 K0; simp at *; done))
   | (
    refine SW.seq_k fun K3 hK3 => ?_
    refine SW.region _ _ _ _ ?_
    refine RL.p T ?_
    refine RL.p T ?_
    refine RL.nil _ _ _ _ ?_
    refine hK3 _ _ _ ?_
    refine SW.ret ?_
    refine retQ.wk ((.var br 47 [.int .i64 room, .int .i64 last, .slice a n c] :: H)) ?_
    refine retQ.rr _ ?_ (hH := fun w hw => hw)
    clear hK3 K3 hK2 K2 hK1 K1 hK0 K0
    exact ⟨rfl, rfl⟩
    )
 ·skip
  first
   | (exfalso; first | omega | contradiction | (clear hK2 K2; clear hK1 K1; clear hK0 K0; simp at *; done))
   | (
    refine SW.skip ?_
    refine hK1 _ _ _ ?_
    refine SW.seq_k fun K4 hK4 => ?_
    refine SW.seq_k fun K5 hK5 => ?_
    refine SW.drawQ [(12, 0), (13, 1), (14, 2), (15, 3), (16, 4), (17, 5), (18, 6), (19, 7), (20, 8), (21, 9)] [[], [0], [1, 0], [2, 1, 0], [3, 2, 1, 0], [], [5], [6, 5], [7, 6, 5], [4, 3, 2, 1, 0, 8, 7, 6, 5]] mixed (by kernel_rfl) (by kernel_rfl) ?_
    refine QL.p T ?_
    refine QL.p T ?_
    refine QL.p T ?_
    first | refine QL.lv1 T ?_ | refine QL.le T ?_
    refine QL.p T ?_
    refine QL.p T ?_
    refine QL.p T ?_
    refine QL.p T ?_
    first | refine QL.lv1 T ?_ | refine QL.le T ?_
    refine QL.p T ?_
    refine QL.nil ?_
    refine hK5 _ _ _ ?_
    refine SW.cs (fun hc1 => ?_) (fun hc1 => ?_)
    ·skip
     first
      | (exfalso; first | omega | contradiction | (clear hK5 K5; clear hK4 K4; clear hK2 K2; clear hK1 K1; clear hK0 K0; simp at *; done))
      | (
       refine SW.seq_k fun K6 hK6 => ?_
       refine SW.region _ _ _ _ ?_
       refine RL.p T ?_
       refine RL.p T ?_
       refine RL.nil _ _ _ _ ?_
       refine hK6 _ _ _ ?_
       refine SW.ret ?_
       refine retQ.wk ((.var br 47 [.int .i64 room, .int .i64 last, .slice a n c] :: H)) ?_
       refine retQ.rr _ ?_ (hH := fun w hw => hw)
       clear hK6 K6 hK5 K5 hK4 K4 hK2 K2 hK1 K1 hK0 K0
       exact ⟨rfl, rfl⟩
       )
    ·skip
     exfalso; first | omega | contradiction | (clear hK5 K5; clear hK4 K4; clear hK2 K2; clear hK1 K1; clear hK0 K0; simp at *; done)
    )
theorem rput_ok {w0 : World} {H : List Chunk} (br : Nat) (room last : Int) (a : Option Addr) (n c : Nat) (M : List It) (hR : Rd w0 H a n c 12 (M.flatMap ItC)) (hn : n = M.length) (hm : n < 100) (x : Fs) (hx : FsOk w0 H x) (hc : chkF x.f = 0) (hf : n < room) (hl : 0 ≤ last) (hl2 : last ≤ 4611686018427387904) (hM : ∀ y ∈ M, FsOk w0 H y.fs) (hMc : ∀ y ∈ M, chkF y.fs.f = 0) : SC Try.prog w0 23 #[.pointer (some ⟨br, 0, none⟩), FsA x] (.var br 47 [.int .i64 room, .int .i64 last, .slice a n c] :: H) (fun v H' => ∃ (D : List Chunk) (a1 : Option Addr) (c1 j : Nat) (x1 : Fs), v = .tuple #[.int .i64 (last + 1), .int .i64 0] ∧ H' = (.var br 47 [.int .i64 room, .int .i64 (last + 1), .slice a1 (n + 1) c1] :: (D ++ H)) ∧ j ≤ n ∧ x1.f = x.f ∧ FsOk w0 D x1 ∧ Rd w0 D a1 (n + 1) c1 12 (List.flatMap ItC (M.take j ++ [⟨last + 1, x1⟩] ++ M.drop j)) ∧ (∀ i, j ≤ i → i < n → keyF x.f < keyF (M.getD i default).fs.f) ∧ (j = 0 ∨ keyF (M.getD (j - 1) default).fs.f ≤ keyF x.f)) := by
 refine SC.enter Try.func23 rfl (Nat.le_of_ble_eq_true rfl) ?_
 refine SW.seq_k fun K0 hK0 => ?_
 have hxm := hx.max
 have hxl := hx.len
 refine SW.region _ _ _ _ ?_
 refine RL.s ?_
 refine NV.box rfl (by exact (rfl : _ = [_, _, _, _, _, _, _, _, _, _, _])) ?_
 intro b3_0
 refine RL.p T ?_
 refine RL.p T ?_
 refine RL.nil _ _ _ _ ?_
 refine hK0 _ _ _ ?_
 refine SW.seq_k fun K1 hK1 => ?_
 refine SW.seq_k fun K2 hK2 => ?_
 refine SW.region _ _ _ _ ?_
 refine RL.q (QV.vN T rfl rfl rfl rfl rfl (by exact (rfl : _ = [_, _, _, _, _, _, _, _, _, _, _]))) ?_
 refine RL.c fun41 (fun hs => rfcheck x.f x.a x.n x.c (by repeat first | exact hx.rd | apply Rd.cons | apply Rd.app) hx.len hx.max hx.ok) ?_
 rintro _ _ ⟨rfl, e⟩; obtain rfl := e.symm
 refine RL.p T ?_
 refine RL.nil _ _ _ _ ?_
 refine hK2 _ _ _ ?_
 refine SW.cs (fun hc0 => ?_) (fun hc0 => ?_)
 ·skip
  first
   | (exfalso; first | omega | contradiction | (clear hK2 K2; clear hK1 K1; clear hK0 K0; simp at *; done))
   | (
    refine SW.seq_k fun K3 hK3 => ?_
    refine SW.region _ _ _ _ ?_
    refine RL.p T ?_
    refine RL.p T ?_
    refine RL.nil _ _ _ _ ?_
    refine hK3 _ _ _ ?_
    refine SW.sat (fun hs => ?_)
    refine SW.ret ?_
    refine retQ.wk ((.var br 47 [.int .i64 room, .int .i64 (last + 1), .slice a1_ (0 + n + 1) c1_] :: ([.row a1_ (0 + n + 1) c1_ 50 12 (List.flatMap ItC (X.set i (⟨last + 1, ⟨x.f, a0_, 0 + x.n, c0_⟩⟩ : It))), .row a0_ (0 + x.n) c0_ 5 1 (([] ++ x.f.data).map (.int .u8))] ++ H))) ?_
    refine retQ.rr _ ?_ (hH := fun w hw => hw)
    clear hK3 K3 hK2 K2 hK1 K1 hK0 K0
    have hD := satT (H0 := [.row a1_ (0 + n + 1) c1_ 50 12 (List.flatMap ItC (X.set i (⟨last + 1, ⟨x.f, a0_, 0 + x.n, c0_⟩⟩ : It))), .row a0_ (0 + x.n) c0_ 5 1 (([] ++ x.f.data).map (.int .u8))]) hs
    have hr1 := Rd.rowh hD (At.head _ _)
    have hr2 := Rd.rowh hD (At.tail (At.head _ _))
    have hd0 : 0 + n = n := Nat.zero_add n
    rw [hd0] at hr1 hr2
    have hlast : i = 0 ∨ keyF (M.getD (i - 1) default).fs.f ≤ keyF x.f := by
      rcases Nat.eq_zero_or_pos i with h0 | h0
      · exact .inl h0
      · rw [← hXi h0]
        exact .inr (by first | omega | exact cmpI_le.1.1 (by first | assumption | omega))
    exact ⟨[.row a1_ (n + 1) c1_ 50 12 (List.flatMap ItC (X.set i (⟨last + 1, ⟨x.f, a0_, 0 + x.n, c0_⟩⟩ : It))), .row a0_ (0 + x.n) c0_ 5 1 (([] ++ x.f.data).map (.int .u8))], a1_, c1_, i, ⟨x.f, a0_, 0 + x.n, c0_⟩, rfl, by rw [hd0], hi, rfl, ⟨(Nat.zero_add _).trans hxl, Nat.le_trans (Nat.le_of_eq (Nat.zero_add x.n)) hxm, hx.ok, hr2⟩, by rw [← ins_end (M := M) (q := (⟨last + 1, ⟨x.f, a0_, 0 + x.n, c0_⟩⟩ : It)) hi hXl hXt hXd]; exact hr1, hXk, hlast⟩
    )
 ·skip
  first
   | (exfalso; first | omega | contradiction | (clear hK2 K2; clear hK1 K1; clear hK0 K0; simp at *; done))
   | (
    refine SW.skip ?_
    refine hK1 _ _ _ ?_
    refine SW.seq_k fun K4 hK4 => ?_
    refine SW.seq_k fun K5 hK5 => ?_
    refine SW.drawQ [(12, 0), (13, 1), (14, 2), (15, 3), (16, 4), (17, 5), (18, 6), (19, 7), (20, 8), (21, 9)] [[], [0], [1, 0], [2, 1, 0], [3, 2, 1, 0], [], [5], [6, 5], [7, 6, 5], [4, 3, 2, 1, 0, 8, 7, 6, 5]] mixed (by kernel_rfl) (by kernel_rfl) ?_
    refine QL.p T ?_
    refine QL.p T ?_
    refine QL.p T ?_
    first | refine QL.lv1 T ?_ | refine QL.le T ?_ (hR := fun hs => (by first | exact (hR.cons.cons) | exact hR.cons | exact (Rd.rowh hs (by repeat first | exact At.head _ _ | apply At.tail | apply At.app)))) (hv := (it_get (by omega)))
    refine QL.p T ?_
    refine QL.p T ?_
    refine QL.p T ?_
    refine QL.p T ?_
    first | refine QL.lv1 T ?_ | refine QL.le T ?_ (hR := fun hs => (by first | exact (hR.cons.cons) | exact hR.cons | exact (Rd.rowh hs (by repeat first | exact At.head _ _ | apply At.tail | apply At.app)))) (hv := (it_get (by omega)))
    refine QL.p T ?_
    refine QL.nil ?_
    refine hK5 _ _ _ ?_
    refine SW.cs (fun hc1 => ?_) (fun hc1 => ?_)
    ·skip
     first
      | (exfalso; first | omega | contradiction | (clear hK5 K5; clear hK4 K4; clear hK2 K2; clear hK1 K1; clear hK0 K0; simp at *; done))
      | (
       refine SW.seq_k fun K6 hK6 => ?_
       refine SW.region _ _ _ _ ?_
       refine RL.p T ?_
       refine RL.p T ?_
       refine RL.nil _ _ _ _ ?_
       refine hK6 _ _ _ ?_
       refine SW.sat (fun hs => ?_)
       refine SW.ret ?_
       refine retQ.wk ((.var br 47 [.int .i64 room, .int .i64 (last + 1), .slice a1_ (0 + n + 1) c1_] :: ([.row a1_ (0 + n + 1) c1_ 50 12 (List.flatMap ItC (X.set i (⟨last + 1, ⟨x.f, a0_, 0 + x.n, c0_⟩⟩ : It))), .row a0_ (0 + x.n) c0_ 5 1 (([] ++ x.f.data).map (.int .u8))] ++ H))) ?_
       refine retQ.rr _ ?_ (hH := fun w hw => hw)
       clear hK6 K6 hK5 K5 hK4 K4 hK2 K2 hK1 K1 hK0 K0
       have hD := satT (H0 := [.row a1_ (0 + n + 1) c1_ 50 12 (List.flatMap ItC (X.set i (⟨last + 1, ⟨x.f, a0_, 0 + x.n, c0_⟩⟩ : It))), .row a0_ (0 + x.n) c0_ 5 1 (([] ++ x.f.data).map (.int .u8))]) hs
       have hr1 := Rd.rowh hD (At.head _ _)
       have hr2 := Rd.rowh hD (At.tail (At.head _ _))
       have hd0 : 0 + n = n := Nat.zero_add n
       rw [hd0] at hr1 hr2
       have hlast : i = 0 ∨ keyF (M.getD (i - 1) default).fs.f ≤ keyF x.f := by
         rcases Nat.eq_zero_or_pos i with h0 | h0
         · exact .inl h0
         · rw [← hXi h0]
           exact .inr (by first | omega | exact cmpI_le.1.1 (by first | assumption | omega))
       exact ⟨[.row a1_ (n + 1) c1_ 50 12 (List.flatMap ItC (X.set i (⟨last + 1, ⟨x.f, a0_, 0 + x.n, c0_⟩⟩ : It))), .row a0_ (0 + x.n) c0_ 5 1 (([] ++ x.f.data).map (.int .u8))], a1_, c1_, i, ⟨x.f, a0_, 0 + x.n, c0_⟩, rfl, by rw [hd0], hi, rfl, ⟨(Nat.zero_add _).trans hxl, Nat.le_trans (Nat.le_of_eq (Nat.zero_add x.n)) hxm, hx.ok, hr2⟩, by rw [← ins_end (M := M) (q := (⟨last + 1, ⟨x.f, a0_, 0 + x.n, c0_⟩⟩ : It)) hi hXl hXt hXd]; exact hr1, hXk, hlast⟩
       )
    ·skip
     first
      | (exfalso; first | omega | contradiction | (clear hK5 K5; clear hK4 K4; clear hK2 K2; clear hK1 K1; clear hK0 K0; simp at *; done))
      | (
       refine SW.skip ?_
       refine hK4 _ _ _ ?_
       refine SW.seq_k fun K7 hK7 => ?_
       refine SW.region _ _ _ _ ?_
       refine RL.p T ?_
       refine RL.p T ?_
       refine RL.p T ?_
       first | refine RL.lv1 T ?_ | refine RL.le T ?_ (hR := fun hs => (by first | exact (hR.cons.cons) | exact hR.cons | exact (Rd.rowh hs (by repeat first | exact At.head _ _ | apply At.tail | apply At.app)))) (hv := (it_get (by omega)))
       first | refine RL.ar ?_ | refine RL.p T ?_
       refine RL.p T ?_
       refine RL.p T ?_
       refine RL.s ?_
       first
         | refine NV.store_var1 T rfl rfl rfl rfl (by conv => lhs; whnf) rfl (by repeat first | exact At.head _ _ | assumption | exact At.put (by assumption) _ | apply At.tail | apply At.app) rfl rfl ?_
         | refine NV.store_var T rfl rfl rfl (by exact (rfl : _ = [_])) rfl rfl (by repeat first | exact At.head _ _ | assumption | exact At.put (by assumption) _ | apply At.tail | apply At.app) (Nat.le_of_ble_eq_true rfl) rfl ?_
         | refine NV.store_elem T rfl rfl rfl rfl (by conv => lhs; whnf) rfl (by repeat first | exact At.head _ _ | assumption | exact At.put (by assumption) _ | apply At.tail | apply At.app) (by omega) ?_
       refine RL.nil _ _ _ _ ?_
       refine hK7 _ _ _ ?_
       refine SW.seq_k fun K8 hK8 => ?_
       refine SW.region _ _ _ _ ?_
       refine RL.p T ?_
       refine RL.p T ?_
       refine RL.p T ?_
       first | refine RL.lv1 T ?_ | refine RL.le T ?_ (hR := fun hs => (by first | exact (hR.cons.cons) | exact hR.cons | exact (Rd.rowh hs (by repeat first | exact At.head _ _ | apply At.tail | apply At.app)))) (hv := (it_get (by omega)))
       refine RL.p T ?_
       refine RL.p T ?_
       refine RL.nil _ _ _ _ ?_
       refine hK8 _ _ _ ?_
       refine SW.seq_k fun K9 hK9 => ?_
       refine SW.region _ _ _ _ ?_
       refine RL.p T ?_
       refine RL.bs T rfl rfl rfl (by exact (rfl : _ = some [])) (fun b35_1 => ?_)
       refine RL.p T ?_
       refine RL.p T ?_
       refine RL.p T ?_
       first | refine RL.lv1 T ?_ | refine RL.le T ?_ (hR := fun hs => (by first | exact (hR.cons.cons) | exact hR.cons | exact (Rd.rowh hs (by repeat first | exact At.head _ _ | apply At.tail | apply At.app)))) (hv := (it_get (by omega)))
       refine RL.apR T (([] : List It)) (ys := M) (enc := ItC) (hR := fun hs => by repeat first | exact hR | apply Rd.cons) (fun a0_ c0_ => ?_)
       refine RL.s ?_
       first | refine NV.buildc T rfl (rfl : _ = some [_, _, _, _, _, _, _, _, _, _, _, _]) ?_ | refine NV.buildz T rfl (rfl : _ = some [_, _, _, _, _, _, _, _, _, _, _, _]) ?_ | refine NV.pure T (rfl : _ = some (Value.agg #[_, _, _, _, _, _, _, _, _, _, _, _])) ?_
       refine RL.bs T rfl rfl rfl (by exact (rfl : _ = some [_, _, _, _, _, _, _, _, _, _, _, _])) (fun b42_2 => ?_)
       refine RL.apS T ([(⟨0, default⟩ : It)]) (fun a1_ c1_ => ?_)
       refine RL.p T ?_
       refine RL.p T ?_
       refine RL.s ?_
       first
         | refine NV.store_var1 T rfl rfl rfl rfl (by conv => lhs; whnf) rfl (by repeat first | exact At.head _ _ | assumption | exact At.put (by assumption) _ | apply At.tail | apply At.app) rfl rfl ?_
         | refine NV.store_var T rfl rfl rfl (by exact (rfl : _ = [_])) rfl rfl (by repeat first | exact At.head _ _ | assumption | exact At.put (by assumption) _ | apply At.tail | apply At.app) (Nat.le_of_ble_eq_true rfl) rfl ?_
         | refine NV.store_elem T rfl rfl rfl rfl (by conv => lhs; whnf) rfl (by repeat first | exact At.head _ _ | assumption | exact At.put (by assumption) _ | apply At.tail | apply At.app) (by omega) ?_
       refine RL.wk (.var br 47 [.int .i64 room, .int .i64 (last + 1), .slice a1_ (0 + n + 1) c1_] :: .row a1_ (0 + n + 1) c1_ 50 12 (List.flatMap ItC (([] ++ M) ++ [(⟨0, default⟩ : It)])) :: .var b3_0 31 (FsC x) :: H) ?_
       refine RL.nil _ _ _ _ ?_
       refine hK9 _ _ _ ?_
       refine SW.seq_k fun K10 hK10 => ?_
       refine SW.block ?_
       refine SW.loopM (fun frB mm fr ds HH => ∃ (i : Nat) (X : List It), mm = i + 1 ∧ (i ≤ n ∧ X.length = n + 1 ∧ X.take i = M.take i ∧ X.drop (i + 1) = M.drop i ∧ (∀ j, i ≤ j → j < n → keyF x.f < keyF (M.getD j default).fs.f)) ∧ FrIs [6, 7, 8, 46, 47, 48, 49, 50, 51, 52, 53, 54, 55, 56, 57, 58, 59, 60, 61, 62, 63, 64, 65, 66, 67, 68, 69, 70, 71, 72, 73, 74, 75, 76, 77, 78, 79] frB fr [(6, .int .i64 i)] ∧ ds = [] ∧ HH = (.var br 47 [.int .i64 room, .int .i64 (last + 1), .slice a1_ (0 + n + 1) c1_] :: .row a1_ (0 + n + 1) c1_ 50 12 (List.flatMap ItC (X)) :: .var b3_0 31 (FsC x) :: H)) (n := n + 1) ?_ ?_
       ·exact ⟨n, _, rfl, ⟨Nat.le_refl _, (ins_start hn _).1, (ins_start hn _).2.1, (ins_start hn _).2.2, fun j h1 h2 => by omega⟩, (.consI rfl (by first | omega | rfl) (.nil (by repeat first | with_reducible exact Mx.refl | with_reducible exact Mx.mix | refine Mx.put rfl ?_ | refine Mx.upd rfl ?_ | refine Mx.updl rfl ?_ | refine Mx.fin rfl ?_ | refine Mx.inner rfl ?_ | refine Mx.none ?_ | exact Mx.refl | exact Mx.mix))), rfl, rfl⟩
       ·rintro mm fr ds HH ⟨i, X, rfl, ⟨hi, hXl, hXt, hXd, hXk⟩, hFr, rfl, eHH⟩
        obtain rfl := eHH.symm
        obtain ⟨frU, rfl⟩ := hFr.eq
        clear hFr
        have hXi : 0 < i → (X.getD (i - 1) default) = (M.getD (i - 1) default) := ins_get hXt
        have hMi : 0 < i → FsOk w0 H (X.getD (i - 1) default).fs := fun h => by rw [hXi h]; exact getI_mem hM _
        have hMk : 0 < i → chkF (X.getD (i - 1) default).fs.f = 0 := fun h => by rw [hXi h]; exact hMc _ (it_mem (by omega))
        refine SW.seq_k fun K11 hK11 => ?_
        refine SW.seq_k fun K12 hK12 => ?_
        refine SW.region _ _ _ _ ?_
        refine RL.p T ?_
        refine RL.p T ?_
        refine RL.nil _ _ _ _ ?_
        refine hK12 _ _ _ ?_
        refine SW.cs (fun hc2 => ?_) (fun hc2 => ?_)
        ·skip
         first
          | (exfalso; first | omega | contradiction | (clear hK12 K12; clear hK11 K11; clear hK10 K10; clear hK9 K9; clear hK8 K8; clear hK7 K7; clear hK5 K5; clear hK4 K4; clear hK2 K2; clear hK1 K1; clear hK0 K0; simp at *; done))
          | (
           refine SW.skip ?_
           refine hK11 _ _ _ ?_
           refine SW.block ?_
           refine SW.seq_k fun K13 hK13 => ?_
           refine SW.drawQ [(49, 0), (50, 1), (51, 2), (52, 3), (53, 4), (54, 5), (55, 6), (56, 7), (57, 8), (58, 9), (59, 10), (48, 11), (60, 12), (61, 13), (7, 14), (8, 15)] [[], [0], [1, 0], [2, 1, 0], [], [4], [3, 2, 1, 0, 5, 4], [6, 3, 2, 1, 0, 5, 4], [7, 6, 3, 2, 1, 0, 5, 4], [], [8, 7, 6, 3, 2, 1, 0, 5, 4, 9], [10, 8, 7, 6, 3, 2, 1, 0, 5, 4, 9], [11, 10, 8, 7, 6, 3, 2, 1, 0, 5, 4, 9], [11, 10, 8, 7, 6, 3, 2, 1, 0, 5, 4, 9], [12, 11, 10, 8, 7, 6, 3, 2, 1, 0, 5, 4, 9], [13, 11, 10, 8, 7, 6, 3, 2, 1, 0, 5, 4, 9, 14, 12]] mixed (by kernel_rfl) (by kernel_rfl) ?_
           refine QL.p T ?_
           refine QL.p T ?_
           refine QL.p T ?_
           first | refine QL.lv1 T ?_ | refine QL.le T ?_ (hR := fun hs => (by first | exact (hR.cons.cons) | exact hR.cons | exact (Rd.rowh hs (by repeat first | exact At.head _ _ | apply At.tail | apply At.app)))) (hv := (it_get (by omega)))
           refine QL.p T ?_
           refine QL.q (QV.as (QV.arith rfl rfl rfl rfl (by omega) (by omega)) (show _ = Value.int .i64 ((i - 1 : Nat) : Int) from congrArg _ (by omega))) ?_
           refine QL.ix T ?_ (hR := fun hs => (by first | exact (hR.cons.cons) | exact hR.cons | exact (Rd.rowh hs (by repeat first | exact At.head _ _ | apply At.tail | apply At.app))))
           refine QL.p T ?_
           refine QL.leS (enc := ItC) (rs := X) (vs := [_, _, _, _, _, _, _, _, _, _, _]) T ?_ (hR := fun hs => (Rd.rowh hs (by repeat first | exact At.head _ _ | apply At.tail | apply At.app))) (hq := it_get (i := i - 1) (by omega)) (hvs := rfl)
           refine QL.q (QV.vN T rfl rfl rfl rfl rfl (by exact (rfl : _ = [_, _, _, _, _, _, _, _, _, _, _]))) ?_
           refine QL.c fun42 (fun hs => rcompare (X.getD (i - 1) default).fs x ((hMi (by omega)).sub SubL.by) (hx.sub SubL.by) (hMk (by omega)) hc) ?_
           refine QL.p T ?_
           refine QL.p T ?_
           refine QL.p T ?_
           refine QL.p T ?_
           refine QL.p T ?_
           refine QL.nil ?_
           refine hK13 _ _ _ ?_
           refine SW.seq_k fun K14 hK14 => ?_
           refine SW.seq_k fun K15 hK15 => ?_
           refine SW.region _ _ _ _ ?_
           refine RL.p T ?_
           refine RL.p T ?_
           refine RL.nil _ _ _ _ ?_
           refine hK15 _ _ _ ?_
           refine SW.cs (fun hc3 => ?_) (fun hc3 => ?_)
           ·skip
            first
             | (exfalso; first | omega | contradiction | (clear hK15 K15; clear hK14 K14; clear hK13 K13; clear hK12 K12; clear hK11 K11; clear hK10 K10; clear hK9 K9; clear hK8 K8; clear hK7 K7; clear hK5 K5; clear hK4 K4; clear hK2 K2; clear hK1 K1; clear hK0 K0; simp at *; done))
             | (
              refine SW.exit ?_
              refine hK10 _ _ _ ?_
              refine SW.seq_k fun K16 hK16 => ?_
              refine SW.region _ _ _ _ ?_
              refine RL.bs T rfl rfl rfl (by exact (rfl : _ = some [])) (fun b80_3 => ?_)
              refine RL.p T ?_
              refine RL.lv1 T ?_
              refine RL.apI (ki := .u8) (xs := []) (ys := x.f.data) T (fun a0_ c0_ => ?_) (hR := fun hs => (by repeat first | exact hx.rd | apply Rd.cons | apply Rd.app))
              refine RL.p T ?_
              refine RL.sv1 T ?_
              refine RL.nil _ _ _ _ ?_
              refine hK16 _ _ _ ?_
              refine SW.seq_k fun K17 hK17 => ?_
              refine SW.sat (fun hs9 => ?_)
              refine SW.draw [(85, 0), (86, 1), (87, 2), (88, 3), (89, 4), (90, 5), (91, 6), (92, 7), (93, 8), (94, 9), (95, 10), (96, 11)] [[], [0], [1, 0], [2, 1, 0], [], [], [5], [6, 5], [7, 6, 5], [], [8, 7, 6, 5, 9], [3, 2, 1, 0, 4, 5, 6, 7, 8, 9, 10], [11, 3, 2, 1, 0, 4, 5, 6, 7, 8, 9, 10]] mixed (by kernel_rfl) (by kernel_rfl) ?_
              refine RD.p T ?_
              refine RD.p T ?_
              refine RD.p T ?_
              refine RD.q rfl rfl (Gd.none rfl) (by first | exact QV.load_var1 T rfl rfl rfl rfl (by repeat first | exact At.head _ _ | assumption | exact At.put (by assumption) _ | apply At.tail | apply At.app) rfl | exact QV.load_varN T rfl rfl rfl rfl rfl (by repeat first | exact At.head _ _ | assumption | exact At.put (by assumption) _ | apply At.tail | apply At.app) (by exact (rfl : _ = [_])) rfl | exact QV.load_elem T rfl rfl rfl rfl (by first | exact (hR.cons.cons) | exact hR.cons | exact (Rd.rowh hs (by repeat first | exact At.head _ _ | apply At.tail | apply At.app))) (it_get (by omega))) ?_
              refine RD.p T ?_
              refine RD.p T ?_
              refine RD.p T ?_
              refine RD.p T ?_
              refine RD.q rfl rfl (Gd.none rfl) (by first | exact QV.load_var1 T rfl rfl rfl rfl (by repeat first | exact At.head _ _ | assumption | exact At.put (by assumption) _ | apply At.tail | apply At.app) rfl | exact QV.load_varN T rfl rfl rfl rfl rfl (by repeat first | exact At.head _ _ | assumption | exact At.put (by assumption) _ | apply At.tail | apply At.app) (by exact (rfl : _ = [_])) rfl | exact QV.load_elem T rfl rfl rfl rfl (by first | exact (hR.cons.cons) | exact hR.cons | exact (Rd.rowh hs (by repeat first | exact At.head _ _ | apply At.tail | apply At.app))) (it_get (by omega))) ?_
              refine RD.q rfl rfl (Gd.none rfl) (QV.vN T rfl rfl rfl rfl rfl (by exact (rfl : _ = [_, _, _, _, _, _, _, _, _, _, _]))) ?_
              refine RD.q rfl rfl (Gd.none rfl) (by first | exact QV.buildc T rfl (rfl : _ = some [_, _, _, _, _, _, _, _, _, _, _, _]) | exact pev_sound T (rfl : _ = some (Value.agg #[_, _, _, _, _, _, _, _, _, _, _, _]))) ?_
              refine RD.q rfl rfl (Gd.none rfl) (QV.indexAddr_slice T rfl rfl rfl rfl rfl (Rd.some (Rd.rowh hs9 (by repeat first | exact At.head _ _ | apply At.tail | apply At.app)) (by omega)) (by omega) (by omega)) ?_
              refine RD.nv rfl rfl rfl (Gd.none rfl) ?_
              refine NV.stN (enc := ItC) (rs := X) (j := i) (q := (⟨last + 1, ⟨x.f, a0_, 0 + x.n, c0_⟩⟩ : It)) T ?_
              refine ⟨Stab.nil, ?_⟩
              refine RD.k rfl rfl ?_
              refine hK17 _ _ _ ?_
              refine SW.seq_k fun K18 hK18 => ?_
              refine SW.region _ _ _ _ ?_
              refine RL.p T ?_
              refine RL.p T ?_
              refine RL.p T ?_
              first | refine RL.lv1 T ?_ | refine RL.le T ?_ (hR := fun hs => (by first | exact (hR.cons.cons) | exact hR.cons | exact (Rd.rowh hs (by repeat first | exact At.head _ _ | apply At.tail | apply At.app)))) (hv := (it_get (by omega)))
              refine RL.p T ?_
              refine RL.p T ?_
              refine RL.nil _ _ _ _ ?_
              refine hK18 _ _ _ ?_
              refine SW.sat (fun hs => ?_)
              refine SW.ret ?_
              refine retQ.wk ((.var br 47 [.int .i64 room, .int .i64 (last + 1), .slice a1_ (0 + n + 1) c1_] :: ([.row a1_ (0 + n + 1) c1_ 50 12 (List.flatMap ItC (X.set i (⟨last + 1, ⟨x.f, a0_, 0 + x.n, c0_⟩⟩ : It))), .row a0_ (0 + x.n) c0_ 5 1 (([] ++ x.f.data).map (.int .u8))] ++ H))) ?_
              refine retQ.rr _ ?_ (hH := fun w hw => hw)
              clear hK18 K18 hK17 K17 hK16 K16 hK15 K15 hK14 K14 hK13 K13 hK12 K12 hK11 K11 hK10 K10 hK9 K9 hK8 K8 hK7 K7 hK5 K5 hK4 K4 hK2 K2 hK1 K1 hK0 K0
              have hD := satT (H0 := [.row a1_ (0 + n + 1) c1_ 50 12 (List.flatMap ItC (X.set i (⟨last + 1, ⟨x.f, a0_, 0 + x.n, c0_⟩⟩ : It))), .row a0_ (0 + x.n) c0_ 5 1 (([] ++ x.f.data).map (.int .u8))]) hs
              have hr1 := Rd.rowh hD (At.head _ _)
              have hr2 := Rd.rowh hD (At.tail (At.head _ _))
              have hd0 : 0 + n = n := Nat.zero_add n
              rw [hd0] at hr1 hr2
              have hlast : i = 0 ∨ keyF (M.getD (i - 1) default).fs.f ≤ keyF x.f := by
                rcases Nat.eq_zero_or_pos i with h0 | h0
                · exact .inl h0
                · rw [← hXi h0]
                  exact .inr (by first | omega | exact cmpI_le.1.1 (by first | assumption | omega))
              exact ⟨[.row a1_ (n + 1) c1_ 50 12 (List.flatMap ItC (X.set i (⟨last + 1, ⟨x.f, a0_, 0 + x.n, c0_⟩⟩ : It))), .row a0_ (0 + x.n) c0_ 5 1 (([] ++ x.f.data).map (.int .u8))], a1_, c1_, i, ⟨x.f, a0_, 0 + x.n, c0_⟩, rfl, by rw [hd0], hi, rfl, ⟨(Nat.zero_add _).trans hxl, Nat.le_trans (Nat.le_of_eq (Nat.zero_add x.n)) hxm, hx.ok, hr2⟩, by rw [← ins_end (M := M) (q := (⟨last + 1, ⟨x.f, a0_, 0 + x.n, c0_⟩⟩ : It)) hi hXl hXt hXd]; exact hr1, hXk, hlast⟩
              )
           ·skip
            first
             | (exfalso; first | omega | contradiction | (clear hK15 K15; clear hK14 K14; clear hK13 K13; clear hK12 K12; clear hK11 K11; clear hK10 K10; clear hK9 K9; clear hK8 K8; clear hK7 K7; clear hK5 K5; clear hK4 K4; clear hK2 K2; clear hK1 K1; clear hK0 K0; simp at *; done))
             | (
              refine SW.skip ?_
              refine hK14 _ _ _ ?_
              refine SW.seq_k fun K19 hK19 => ?_
              refine SW.sat (fun hs9 => ?_)
              refine SW.draw [(64, 0), (65, 1), (66, 2), (67, 3), (68, 4), (69, 5), (70, 6), (71, 7), (72, 8), (73, 9), (74, 10), (75, 11), (76, 12), (77, 13)] [[], [0], [1, 0], [2, 1, 0], [], [], [5], [6, 5], [7, 6, 5], [], [9], [8, 7, 6, 5, 10, 9], [11, 8, 7, 6, 5, 10, 9], [3, 2, 1, 0, 4, 5, 6, 7, 8, 9, 10, 11, 12], [13, 3, 2, 1, 0, 4, 5, 6, 7, 8, 9, 10, 11, 12]] mixed (by kernel_rfl) (by kernel_rfl) ?_
              refine RD.p T ?_
              refine RD.p T ?_
              refine RD.p T ?_
              refine RD.q rfl rfl (Gd.none rfl) (by first | exact QV.load_var1 T rfl rfl rfl rfl (by repeat first | exact At.head _ _ | assumption | exact At.put (by assumption) _ | apply At.tail | apply At.app) rfl | exact QV.load_varN T rfl rfl rfl rfl rfl (by repeat first | exact At.head _ _ | assumption | exact At.put (by assumption) _ | apply At.tail | apply At.app) (by exact (rfl : _ = [_])) rfl | exact QV.load_elem T rfl rfl rfl rfl (by first | exact (hR.cons.cons) | exact hR.cons | exact (Rd.rowh hs (by repeat first | exact At.head _ _ | apply At.tail | apply At.app))) (it_get (by omega))) ?_
              refine RD.p T ?_
              refine RD.p T ?_
              refine RD.p T ?_
              refine RD.p T ?_
              refine RD.q rfl rfl (Gd.none rfl) (by first | exact QV.load_var1 T rfl rfl rfl rfl (by repeat first | exact At.head _ _ | assumption | exact At.put (by assumption) _ | apply At.tail | apply At.app) rfl | exact QV.load_varN T rfl rfl rfl rfl rfl (by repeat first | exact At.head _ _ | assumption | exact At.put (by assumption) _ | apply At.tail | apply At.app) (by exact (rfl : _ = [_])) rfl | exact QV.load_elem T rfl rfl rfl rfl (by first | exact (hR.cons.cons) | exact hR.cons | exact (Rd.rowh hs (by repeat first | exact At.head _ _ | apply At.tail | apply At.app))) (it_get (by omega))) ?_
              refine RD.p T ?_
              refine RD.q rfl rfl (Gd.none rfl) (QV.as (QV.arith rfl rfl rfl rfl (by omega) (by omega)) (by rw [show ((i : Int) - 1) = ((i - 1 : Nat) : Int) by omega]; try rfl)) ?_
              refine RD.q rfl rfl (Gd.none rfl) (QV.indexAddr_slice T rfl rfl rfl rfl rfl (Rd.some (Rd.rowh hs9 (by repeat first | exact At.head _ _ | apply At.tail | apply At.app)) (by omega)) (by omega) (by omega)) ?_
              refine RD.q rfl rfl (Gd.none rfl) (QV.sat fun hs => QV.leN T rfl rfl rfl rfl rfl rfl (by first | exact (hR.cons.cons) | exact hR.cons | exact (Rd.rowh hs (by repeat first | exact At.head _ _ | apply At.tail | apply At.app))) (it_get (by omega)) (by exact (rfl : _ = [_, _, _, _, _, _, _, _, _, _, _, _]))) ?_
              refine RD.q rfl rfl (Gd.none rfl) (QV.indexAddr_slice T rfl rfl rfl rfl rfl (Rd.some (Rd.rowh hs9 (by repeat first | exact At.head _ _ | apply At.tail | apply At.app)) (by omega)) (by omega) (by omega)) ?_
              refine RD.nv rfl rfl rfl (Gd.none rfl) ?_
              refine NV.stN (enc := ItC) (rs := X) (j := i) (q := (X.getD (i - 1) default)) T ?_
              refine ⟨Stab.nil, ?_⟩
              refine RD.k rfl rfl ?_
              refine hK19 _ _ _ ?_
              refine SW.region _ _ _ _ ?_
              refine RL.p T ?_
              first | refine RL.ar ?_ | refine RL.p T ?_
              refine RL.p T ?_
              refine RL.nil _ _ _ _ ?_
              exact ⟨i - 1 + 1, (by omega), i - 1, X.set i (X.getD (i - 1) default), (by rfl), ⟨by omega, (ins_step hn (by omega) hi hXl hXt hXd).1, (ins_step hn (by omega) hi hXl hXt hXd).2.1, (ins_step hn (by omega) hi hXl hXt hXd).2.2, ins_key (by omega) hXk (hXi (by omega)) (by omega)⟩, (.consI rfl (by first | omega | rfl) (.nil (by repeat first | with_reducible exact Mx.refl | with_reducible exact Mx.mix | refine Mx.put rfl ?_ | refine Mx.upd rfl ?_ | refine Mx.updl rfl ?_ | refine Mx.fin rfl ?_ | refine Mx.inner rfl ?_ | refine Mx.none ?_ | exact Mx.refl | exact Mx.mix))), rfl, rfl⟩
              )
           )
        ·skip
         first
          | (exfalso; first | omega | contradiction | (clear hK12 K12; clear hK11 K11; clear hK10 K10; clear hK9 K9; clear hK8 K8; clear hK7 K7; clear hK5 K5; clear hK4 K4; clear hK2 K2; clear hK1 K1; clear hK0 K0; simp at *; done))
          | (
           refine SW.exit ?_
           refine hK10 _ _ _ ?_
           refine SW.seq_k fun K20 hK20 => ?_
           refine SW.region _ _ _ _ ?_
           refine RL.bs T rfl rfl rfl (by exact (rfl : _ = some [])) (fun b80_4 => ?_)
           refine RL.p T ?_
           refine RL.lv1 T ?_
           refine RL.apI (ki := .u8) (xs := []) (ys := x.f.data) T (fun a0_ c0_ => ?_) (hR := fun hs => (by repeat first | exact hx.rd | apply Rd.cons | apply Rd.app))
           refine RL.p T ?_
           refine RL.sv1 T ?_
           refine RL.nil _ _ _ _ ?_
           refine hK20 _ _ _ ?_
           refine SW.seq_k fun K21 hK21 => ?_
           refine SW.sat (fun hs9 => ?_)
           refine SW.draw [(85, 0), (86, 1), (87, 2), (88, 3), (89, 4), (90, 5), (91, 6), (92, 7), (93, 8), (94, 9), (95, 10), (96, 11)] [[], [0], [1, 0], [2, 1, 0], [], [], [5], [6, 5], [7, 6, 5], [], [8, 7, 6, 5, 9], [3, 2, 1, 0, 4, 5, 6, 7, 8, 9, 10], [11, 3, 2, 1, 0, 4, 5, 6, 7, 8, 9, 10]] mixed (by kernel_rfl) (by kernel_rfl) ?_
           refine RD.p T ?_
           refine RD.p T ?_
           refine RD.p T ?_
           refine RD.q rfl rfl (Gd.none rfl) (by first | exact QV.load_var1 T rfl rfl rfl rfl (by repeat first | exact At.head _ _ | assumption | exact At.put (by assumption) _ | apply At.tail | apply At.app) rfl | exact QV.load_varN T rfl rfl rfl rfl rfl (by repeat first | exact At.head _ _ | assumption | exact At.put (by assumption) _ | apply At.tail | apply At.app) (by exact (rfl : _ = [_])) rfl | exact QV.load_elem T rfl rfl rfl rfl (by first | exact (hR.cons.cons) | exact hR.cons | exact (Rd.rowh hs (by repeat first | exact At.head _ _ | apply At.tail | apply At.app))) (it_get (by omega))) ?_
           refine RD.p T ?_
           refine RD.p T ?_
           refine RD.p T ?_
           refine RD.p T ?_
           refine RD.q rfl rfl (Gd.none rfl) (by first | exact QV.load_var1 T rfl rfl rfl rfl (by repeat first | exact At.head _ _ | assumption | exact At.put (by assumption) _ | apply At.tail | apply At.app) rfl | exact QV.load_varN T rfl rfl rfl rfl rfl (by repeat first | exact At.head _ _ | assumption | exact At.put (by assumption) _ | apply At.tail | apply At.app) (by exact (rfl : _ = [_])) rfl | exact QV.load_elem T rfl rfl rfl rfl (by first | exact (hR.cons.cons) | exact hR.cons | exact (Rd.rowh hs (by repeat first | exact At.head _ _ | apply At.tail | apply At.app))) (it_get (by omega))) ?_
           refine RD.q rfl rfl (Gd.none rfl) (QV.vN T rfl rfl rfl rfl rfl (by exact (rfl : _ = [_, _, _, _, _, _, _, _, _, _, _]))) ?_
           refine RD.q rfl rfl (Gd.none rfl) (by first | exact QV.buildc T rfl (rfl : _ = some [_, _, _, _, _, _, _, _, _, _, _, _]) | exact pev_sound T (rfl : _ = some (Value.agg #[_, _, _, _, _, _, _, _, _, _, _, _]))) ?_
           refine RD.q rfl rfl (Gd.none rfl) (QV.indexAddr_slice T rfl rfl rfl rfl rfl (Rd.some (Rd.rowh hs9 (by repeat first | exact At.head _ _ | apply At.tail | apply At.app)) (by omega)) (by omega) (by omega)) ?_
           refine RD.nv rfl rfl rfl (Gd.none rfl) ?_
           refine NV.stN (enc := ItC) (rs := X) (j := i) (q := (⟨last + 1, ⟨x.f, a0_, 0 + x.n, c0_⟩⟩ : It)) T ?_
           refine ⟨Stab.nil, ?_⟩
           refine RD.k rfl rfl ?_
           refine hK21 _ _ _ ?_
           refine SW.seq_k fun K22 hK22 => ?_
           refine SW.region _ _ _ _ ?_
           refine RL.p T ?_
           refine RL.p T ?_
           refine RL.p T ?_
           first | refine RL.lv1 T ?_ | refine RL.le T ?_ (hR := fun hs => (by first | exact (hR.cons.cons) | exact hR.cons | exact (Rd.rowh hs (by repeat first | exact At.head _ _ | apply At.tail | apply At.app)))) (hv := (it_get (by omega)))
           refine RL.p T ?_
           refine RL.p T ?_
           refine RL.nil _ _ _ _ ?_
           refine hK22 _ _ _ ?_
           refine SW.sat (fun hs => ?_)
           refine SW.ret ?_
           refine retQ.wk ((.var br 47 [.int .i64 room, .int .i64 (last + 1), .slice a1_ (0 + n + 1) c1_] :: ([.row a1_ (0 + n + 1) c1_ 50 12 (List.flatMap ItC (X.set i (⟨last + 1, ⟨x.f, a0_, 0 + x.n, c0_⟩⟩ : It))), .row a0_ (0 + x.n) c0_ 5 1 (([] ++ x.f.data).map (.int .u8))] ++ H))) ?_
           refine retQ.rr _ ?_ (hH := fun w hw => hw)
           clear hK22 K22 hK21 K21 hK20 K20 hK12 K12 hK11 K11 hK10 K10 hK9 K9 hK8 K8 hK7 K7 hK5 K5 hK4 K4 hK2 K2 hK1 K1 hK0 K0
           have hD := satT (H0 := [.row a1_ (0 + n + 1) c1_ 50 12 (List.flatMap ItC (X.set i (⟨last + 1, ⟨x.f, a0_, 0 + x.n, c0_⟩⟩ : It))), .row a0_ (0 + x.n) c0_ 5 1 (([] ++ x.f.data).map (.int .u8))]) hs
           have hr1 := Rd.rowh hD (At.head _ _)
           have hr2 := Rd.rowh hD (At.tail (At.head _ _))
           have hd0 : 0 + n = n := Nat.zero_add n
           rw [hd0] at hr1 hr2
           have hlast : i = 0 ∨ keyF (M.getD (i - 1) default).fs.f ≤ keyF x.f := by
             rcases Nat.eq_zero_or_pos i with h0 | h0
             · exact .inl h0
             · rw [← hXi h0]
               exact .inr (by first | omega | exact cmpI_le.1.1 (by first | assumption | omega))
           exact ⟨[.row a1_ (n + 1) c1_ 50 12 (List.flatMap ItC (X.set i (⟨last + 1, ⟨x.f, a0_, 0 + x.n, c0_⟩⟩ : It))), .row a0_ (0 + x.n) c0_ 5 1 (([] ++ x.f.data).map (.int .u8))], a1_, c1_, i, ⟨x.f, a0_, 0 + x.n, c0_⟩, rfl, by rw [hd0], hi, rfl, ⟨(Nat.zero_add _).trans hxl, Nat.le_trans (Nat.le_of_eq (Nat.zero_add x.n)) hxm, hx.ok, hr2⟩, by rw [← ins_end (M := M) (q := (⟨last + 1, ⟨x.f, a0_, 0 + x.n, c0_⟩⟩ : It)) hi hXl hXt hXd]; exact hr1, hXk, hlast⟩
           )
       )
    )
end Go.Proofs.Ytjemdjjmpgjieaa.M
