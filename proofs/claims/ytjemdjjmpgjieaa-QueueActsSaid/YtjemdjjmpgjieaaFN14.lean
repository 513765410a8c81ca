import Derived.Test.YtjemdjjmpgjieaaProg
import Derived.Test.YtjemdjjmpgjieaaFI14
import Derived.Test.YtjemdjjmpgjieaaS37
import Derived.Test.YtjemdjjmpgjieaaP14f
set_option linter.unusedVariables false
set_option linter.unusedSimpArgs false
namespace Go.Proofs.Ytjemdjjmpgjieaa.M
open Go Go.Sep Go.Proofs
set_option maxRecDepth 10000
set_option maxHeartbeats 2000000
theorem it_get {out : List It} {i : Nat} (h : i < out.length) : out[i]? = some (out.getD i default) := by rw [List.getD_eq_getElem?_getD, List.getElem?_eq_getElem h]; rfl
theorem it_mem {out : List It} {i : Nat} (h : i < out.length) : out.getD i default ∈ out := List.mem_of_getElem? (it_get h)
theorem it_map {out : List It} {S : List En} {i : Nat} (h : out.map itP = S.map enP) (hi : i < out.length) : (out.getD i default).no = (gE S i).no ∧ (out.getD i default).fs.f = (gE S i).fs.f := by
  have hl : out.length = S.length := by have := congrArg List.length h; simpa using this
  have := congrArg (fun l => l[i]?) h
  simp only [List.getElem?_map] at this
  rw [it_get hi, gE_get (by omega)] at this
  have e := Option.some.inj this
  exact ⟨congrArg Prod.fst e, congrArg Prod.snd e⟩
theorem cmpI_le {x y : Int} : (cmpI x y ≤ 0 ↔ x ≤ y) ∧ (cmpI x y = 0 ↔ x = y) := by
  unfold cmpI; split <;> (try split) <;> omega
theorem take_it {n k : Nat} {M : List It} (hk : k < n) (hn : n = M.length) : (M.take (k + 1)) = M.take k ++ [M.getD k default] := by
  have hl : k < M.length := by omega
  rw [List.take_add_one, List.getElem?_eq_getElem hl, List.getD_eq_getElem?_getD, List.getElem?_eq_getElem hl]; rfl
theorem getI_mem {ls : List It} {w0 : World} {H : List Chunk} (h : ∀ y ∈ ls, FsOk w0 H y.fs) (k : Nat) : FsOk w0 H (ls.getD k default).fs := by
  rcases Nat.lt_or_ge k ls.length with hk | hk
  · exact h _ (it_mem hk)
  · rw [List.getD_eq_getElem?_getD, List.getElem?_eq_none hk]; exact FsOk.dflt
theorem it_eq {ps qs : List It} (h : ps.map itP = qs.map itP) (k : Nat) : (ps.getD k default).no = (qs.getD k default).no ∧ (ps.getD k default).fs.f = (qs.getD k default).fs.f := by
  have hl : ps.length = qs.length := by have := congrArg List.length h; simpa using this
  rcases Nat.lt_or_ge k ps.length with hk | hk
  · have := congrArg (fun l => l[k]?) h
    simp only [List.getElem?_map] at this
    rw [it_get hk, it_get (by omega)] at this
    have e := Option.some.inj this
    exact ⟨congrArg Prod.fst e, congrArg Prod.snd e⟩
  · rw [List.getD_eq_getElem?_getD, List.getD_eq_getElem?_getD, List.getElem?_eq_none hk, List.getElem?_eq_none (by omega)]; exact ⟨rfl, rfl⟩
theorem isNo {w0 : World} {H : List Chunk} (b : Nat) (no : Int) (x : En) : SC Try.prog w0 38 #[EnA x, .pointer (some ⟨b, 0, none⟩)] (.var b 3 [.int .i64 no] :: H) (fun v H' => v = .bool (decide (x.no = no)) ∧ H' = .var b 3 [.int .i64 no] :: H) := by
 refine SC.enter Try.func38 rfl (Nat.le_of_ble_eq_true rfl) ?_
 refine SW.seq_k fun K0 hK0 => ?_
 refine SW.region _ _ _ _ ?_
 refine RL.s ?_
 refine NV.box rfl (by exact (rfl : _ = [_, _, _, _, _, _, _, _, _, _, _, _, _])) ?_
 intro b2_0
 refine RL.p T ?_
 refine RL.nil _ _ _ _ ?_
 refine hK0 _ _ _ ?_
 refine SW.seq_k fun K1 hK1 => ?_
 refine SW.region _ _ _ _ ?_
 refine RL.p T ?_
 refine RL.p T ?_
 refine RL.lv1 T ?_
 first | refine RL.lv1 T ?_ | refine RL.le T ?_
 refine RL.p T ?_
 refine RL.p T ?_
 refine RL.nil _ _ _ _ ?_
 refine hK1 _ _ _ ?_
 refine SW.ret ?_
 refine retQ.rr ((.var b 3 [.int .i64 no] :: H)) ?_
 clear hK1 K1 hK0 K0
 exact ⟨rfl, rfl⟩
theorem idxNo {w0 : World} {H : List Chunk} (b : Nat) (no : Int) (a : Option Addr) (n c : Nat) (M : List En) (hn : n = M.length) (hm : n ≤ 100) (hR : Rd w0 H a n c 13 (M.flatMap EnC)) : SC Try.prog w0 37 #[.slice a n c, .func (.func 38) #[] #[.pointer (some ⟨b, 0, none⟩)]] (.var b 3 [.int .i64 no] :: H) (fun v H' => ∃ z : Int, v = .int .i64 z ∧ ((z = -1 ∧ ∀ j, j < n → (gE M j).no ≠ no) ∨ (∃ i : Nat, i < n ∧ z = (i : Nat) ∧ (gE M i).no = no)) ∧ H' = .var b 3 [.int .i64 no] :: H) := by
 refine SC.enter Try.func37 rfl (Nat.le_of_ble_eq_true rfl) ?_
 refine SW.seq_k fun K0 hK0 => ?_
 refine SW.region _ _ _ _ ?_
 refine RL.p T ?_
 refine RL.nil _ _ _ _ ?_
 refine hK0 _ _ _ ?_
 refine SW.seq_k fun K1 hK1 => ?_
 refine SW.seq_k fun K2 hK2 => ?_
 refine SW.region _ _ _ _ ?_
 refine RL.p T ?_
 refine RL.p T ?_
 refine RL.p T ?_
 refine RL.nil _ _ _ _ ?_
 refine hK2 _ _ _ ?_
 refine SW.block ?_
 refine SW.loopM (fun frB mm fr ds HH => ∃ (k : Nat) , mm = n - k ∧ (k ≤ n ∧ (∀ j, j < k → (gE M j).no ≠ no)) ∧ FrIs [4, 5, 8, 9, 10, 11, 12, 13, 14, 15, 16, 17, 18] frB fr [(8, .int .i64 k)] ∧ ds = [] ∧ HH = (.var b 3 [.int .i64 no] :: H)) (n := n - 0) ?_ ?_
 ·exact ⟨0, rfl, ⟨Nat.zero_le _, fun j h => absurd h (Nat.not_lt_zero _)⟩, (.cons rfl (.nil (by repeat first | with_reducible exact Mx.refl | with_reducible exact Mx.mix | refine Mx.put rfl ?_ | refine Mx.upd rfl ?_ | refine Mx.updl rfl ?_ | refine Mx.fin rfl ?_ | refine Mx.inner rfl ?_ | refine Mx.none ?_ | exact Mx.refl | exact Mx.mix))), rfl, rfl⟩
 ·rintro mm fr ds HH ⟨k, rfl, ⟨hk, hb⟩, hFr, rfl, eHH⟩
  obtain rfl := eHH.symm
  obtain ⟨frU, rfl⟩ := hFr.eq
  clear hFr
  refine SW.seq_k fun K3 hK3 => ?_
  refine SW.region _ _ _ _ ?_
  refine RL.p T ?_
  refine RL.nil _ _ _ _ ?_
  refine hK3 _ _ _ ?_
  refine SW.seq_k fun K4 hK4 => ?_
  refine SW.cs (fun hc0 => ?_) (fun hc0 => ?_)
  ·skip
   first
    | (exfalso; first | omega | contradiction | (clear hK4 K4; clear hK3 K3; clear hK2 K2; clear hK1 K1; clear hK0 K0; simp at *; done))
    | (
     refine SW.skip ?_
     refine hK4 _ _ _ ?_
     refine SW.seq_k fun K5 hK5 => ?_
     refine SW.block ?_
     refine SW.seq_k fun K6 hK6 => ?_
     refine SW.region _ _ _ _ ?_
     refine RL.p T ?_
     refine RL.p T ?_
     refine RL.nil _ _ _ _ ?_
     refine hK6 _ _ _ ?_
     refine SW.seq_k fun K7 hK7 => ?_
     refine SW.region _ _ _ _ ?_
     refine RL.p T ?_
     refine RL.p T ?_
     refine RL.p T ?_
     refine RL.ix T ?_ (hR := fun hs => hR.cons)
     refine RL.leN T ?_ (hR := fun hs => hR.cons) (hvs := (by exact (rfl : _ = [_, _, _, _, _, _, _, _, _, _, _, _, _])))
     refine RL.c fun38 (fun hs => SC.wk (isNo b no (gE M k) (H := H))) ?_
     rintro _ _ ⟨rfl, e⟩; obtain rfl := e.symm
     refine RL.nil _ _ _ _ ?_
     refine hK7 _ _ _ ?_
     refine SW.cs (fun hc1 => ?_) (fun hc1 => ?_)
     ·skip
      first
       | (exfalso; first | omega | contradiction | (clear hK7 K7; clear hK6 K6; clear hK5 K5; clear hK4 K4; clear hK3 K3; clear hK2 K2; clear hK1 K1; clear hK0 K0; simp at *; done))
       | (
        refine SW.seq_k fun K8 hK8 => ?_
        refine SW.region _ _ _ _ ?_
        refine RL.p T ?_
        refine RL.p T ?_
        refine RL.nil _ _ _ _ ?_
        refine hK8 _ _ _ ?_
        refine SW.ret ?_
        refine retQ.rr ((.var b 3 [.int .i64 no] :: H)) ?_
        clear hK8 K8 hK7 K7 hK6 K6 hK5 K5 hK4 K4 hK3 K3 hK2 K2 hK1 K1 hK0 K0
        first
          | exact ⟨_, rfl, .inr ⟨k, by omega, rfl, by simp_all⟩, rfl⟩
          | (obtain rfl : k = n := by omega
             exact ⟨_, rfl, .inl ⟨rfl, hb⟩, rfl⟩)
        )
     ·skip
      first
       | (exfalso; first | omega | contradiction | (clear hK7 K7; clear hK6 K6; clear hK5 K5; clear hK4 K4; clear hK3 K3; clear hK2 K2; clear hK1 K1; clear hK0 K0; simp at *; done))
       | (
        refine SW.skip ?_
        refine hK5 _ _ _ ?_
        refine SW.region _ _ _ _ ?_
        first | refine RL.ar ?_ | refine RL.p T ?_
        refine RL.p T ?_
        refine RL.nil _ _ _ _ ?_
        exact ⟨n - (k + 1), (by omega), k + 1, (by rfl), ⟨by omega, fun j h => by
          rcases Nat.lt_or_eq_of_le (Nat.le_of_lt_succ h) with h1 | h1
          · exact hb j h1
          · rw [h1]; simp_all⟩, (.cons rfl (.nil (by repeat first | with_reducible exact Mx.refl | with_reducible exact Mx.mix | refine Mx.put rfl ?_ | refine Mx.upd rfl ?_ | refine Mx.updl rfl ?_ | refine Mx.fin rfl ?_ | refine Mx.inner rfl ?_ | refine Mx.none ?_ | exact Mx.refl | exact Mx.mix))), rfl, rfl⟩
        )
     )
  ·skip
   first
    | (exfalso; first | omega | contradiction | (clear hK4 K4; clear hK3 K3; clear hK2 K2; clear hK1 K1; clear hK0 K0; simp at *; done))
    | (
     refine SW.exit ?_
     refine hK1 _ _ _ ?_
     refine SW.seq_k fun K9 hK9 => ?_
     refine SW.region _ _ _ _ ?_
     refine RL.p T ?_
     refine RL.nil _ _ _ _ ?_
     refine hK9 _ _ _ ?_
     refine SW.ret ?_
     refine retQ.rr ((.var b 3 [.int .i64 no] :: H)) ?_
     clear hK9 K9 hK4 K4 hK3 K3 hK2 K2 hK1 K1 hK0 K0
     first
       | exact ⟨_, rfl, .inr ⟨k, by omega, rfl, by simp_all⟩, rfl⟩
       | (obtain rfl : k = n := by omega
          exact ⟨_, rfl, .inl ⟨rfl, hb⟩, rfl⟩)
     )
theorem cancelU {w0 : World} {H : List Chunk} (bq : Nat) (room last : Int) (a : Option Addr) (n c : Nat) (L : List En) (hn : n = L.length) (hm : n ≤ 100) (no : Int) : SC Try.prog w0 19 #[.pointer (some ⟨bq, 0, none⟩), .int .i64 no] (.var bq 73 [.int .i64 room, .int .i64 last, .slice a n c] :: .row a n c 80 13 (List.flatMap EnC (L)) :: H) (fun v H' => ∃ (er : Int) (n2 : Nat) (L2 : List En), v = .int .i64 er ∧ H' = (.var bq 73 [.int .i64 room, .int .i64 last, .slice a n2 c] :: .row a n2 c 80 13 (List.flatMap EnC (L2)) :: H) ∧ ((er = 9 ∧ n2 = n ∧ L2 = L ∧ ∀ j, j < n → (gE L j).no ≠ no) ∨ (er = 0 ∧ ∃ i, i < n ∧ (gE L i).no = no ∧ n2 = n - 1 ∧ L2 = (remL L i).take (n - 1)))) := by
 refine SC.enter Try.func19 rfl (Nat.le_of_ble_eq_true rfl) ?_
 refine SW.seq_k fun K0 hK0 => ?_
 refine SW.region _ _ _ _ ?_
 refine RL.s ?_
 refine NV.box rfl (by exact (rfl : _ = [_])) ?_
 intro b3_0
 refine RL.p T ?_
 refine RL.nil _ _ _ _ ?_
 refine hK0 _ _ _ ?_
 refine SW.seq_k fun K1 hK1 => ?_
 refine SW.seq_k fun K2 hK2 => ?_
 refine SW.region _ _ _ _ ?_
 refine RL.p T ?_
 refine RL.p T ?_
 refine RL.nil _ _ _ _ ?_
 refine hK2 _ _ _ ?_
 refine SW.cs (fun hc0 => ?_) (fun hc0 => ?_)
 ·skip
  first
   | (exfalso; first | omega | contradiction | (clear hK2 K2; clear hK1 K1; clear hK0 K0; simp at *; done))
   | (
    refine SW.seq_k fun K3 hK3 => ?_
    refine SW.region _ _ _ _ ?_
    refine RL.p T ?_
    refine RL.nil _ _ _ _ ?_
    refine hK3 _ _ _ ?_
    refine SW.ret ?_
    refine retQ.wk ((.var bq 73 [.int .i64 room, .int .i64 last, .slice a n c] :: .row a n c 80 13 (List.flatMap EnC (L)) :: H)) ?_
    refine retQ.rr _ ?_ (hH := fun w hw => hw)
    clear hK3 K3 hK2 K2 hK1 K1 hK0 K0
    first
      | exact ⟨_, _, _, rfl, rfl, .inr ⟨rfl, i, hi, he, rfl, rfl⟩⟩
      | exact ⟨_, _, _, rfl, rfl, .inl ⟨rfl, rfl, rfl, (hz.resolve_right (by rintro ⟨i, _, rfl, _⟩; omega)).2⟩⟩
    )
 ·skip
  first
   | (exfalso; first | omega | contradiction | (clear hK2 K2; clear hK1 K1; clear hK0 K0; simp at *; done))
   | (
    refine SW.skip ?_
    refine hK1 _ _ _ ?_
    refine SW.seq_k fun K4 hK4 => ?_
    refine SW.region _ _ _ _ ?_
    refine RL.p T ?_
    refine RL.p T ?_
    refine RL.p T ?_
    first | refine RL.lv1 T ?_ | refine RL.le T ?_
    refine RL.p T ?_
    refine RL.c fun37 (fun hs => SC.wk (idxNo b3_0 no a n c L hn hm (Rd.rowh (satT (H0 := .var bq 73 [.int .i64 room, .int .i64 last, .slice a n c] :: .row a n c 80 13 (List.flatMap EnC (L)) :: H) hs) (At.tail (At.head _ _))) (H := .var bq 73 [.int .i64 room, .int .i64 last, .slice a n c] :: .row a n c 80 13 (List.flatMap EnC (L)) :: H))) ?_
    rintro _ _ ⟨z, rfl, hz, e⟩; obtain rfl := e.symm
    refine RL.p T ?_
    refine RL.nil _ _ _ _ ?_
    refine hK4 _ _ _ ?_
    refine SW.seq_k fun K5 hK5 => ?_
    refine SW.seq_k fun K6 hK6 => ?_
    refine SW.region _ _ _ _ ?_
    refine RL.p T ?_
    refine RL.p T ?_
    refine RL.nil _ _ _ _ ?_
    refine hK6 _ _ _ ?_
    refine SW.cs (fun hc1 => ?_) (fun hc1 => ?_)
    ·skip
     first
      | (exfalso; first | omega | contradiction | (clear hK6 K6; clear hK5 K5; clear hK4 K4; clear hK2 K2; clear hK1 K1; clear hK0 K0; simp at *; done))
      | (
       refine SW.seq_k fun K7 hK7 => ?_
       refine SW.region _ _ _ _ ?_
       refine RL.p T ?_
       refine RL.nil _ _ _ _ ?_
       refine hK7 _ _ _ ?_
       refine SW.ret ?_
       refine retQ.wk ((.var bq 73 [.int .i64 room, .int .i64 last, .slice a n c] :: .row a n c 80 13 (List.flatMap EnC (L)) :: H)) ?_
       refine retQ.rr _ ?_ (hH := fun w hw => hw)
       clear hK7 K7 hK6 K6 hK5 K5 hK4 K4 hK2 K2 hK1 K1 hK0 K0
       first
         | exact ⟨_, _, _, rfl, rfl, .inr ⟨rfl, i, hi, he, rfl, rfl⟩⟩
         | exact ⟨_, _, _, rfl, rfl, .inl ⟨rfl, rfl, rfl, (hz.resolve_right (by rintro ⟨i, _, rfl, _⟩; omega)).2⟩⟩
       )
    ·skip
     first
      | (exfalso; first | omega | contradiction | (clear hK6 K6; clear hK5 K5; clear hK4 K4; clear hK2 K2; clear hK1 K1; clear hK0 K0; simp at *; done))
      | (
       refine SW.skip ?_
       refine hK5 _ _ _ ?_
       refine SW.seq_k fun K8 hK8 => ?_
       obtain ⟨i, hi, rfl, he⟩ := hz.resolve_left (by omega)
       refine SW.region _ _ _ _ ?_
       refine RL.p T ?_
       refine RL.p T ?_
       refine RL.p T ?_
       refine RL.p T ?_
       refine RL.p T ?_
       refine RL.c fun39 (fun hs => SC.wk (hRem bq room last a n c L hn hm i hi (H := H))) ?_
       rintro _ _ ⟨rfl, e⟩; obtain rfl := e.symm
       refine RL.nil _ _ _ _ ?_
       refine hK8 _ _ _ ?_
       refine SW.seq_k fun K9 hK9 => ?_
       refine SW.region _ _ _ _ ?_
       refine RL.p T ?_
       refine RL.nil _ _ _ _ ?_
       refine hK9 _ _ _ ?_
       refine SW.ret ?_
       refine retQ.wk ((.var bq 73 [.int .i64 room, .int .i64 last, .slice a (n - 1) c] :: .row a (n - 1) c 80 13 (List.flatMap EnC ((remL L i).take (n - 1))) :: H)) ?_
       refine retQ.rr _ ?_ (hH := fun w hw => hw)
       clear hK9 K9 hK8 K8 hK6 K6 hK5 K5 hK4 K4 hK2 K2 hK1 K1 hK0 K0
       first
         | exact ⟨_, _, _, rfl, rfl, .inr ⟨rfl, i, hi, he, rfl, rfl⟩⟩
         | exact ⟨_, _, _, rfl, rfl, .inl ⟨rfl, rfl, rfl, (hz.resolve_right (by rintro ⟨i, _, rfl, _⟩; omega)).2⟩⟩
       )
    )
theorem items {w0 : World} {H : List Chunk} (sa : Option Addr) (n c : Nat) (out : List It) (hR : Rd w0 H sa n c 12 (out.flatMap ItC)) (hn : n = out.length) (hm : n ≤ 100) : SC Try.prog w0 25 #[.slice sa n c] H (fun v H' => ∃ oa oc, v = .slice oa n oc ∧ H' = (.row oa n oc 50 12 (List.flatMap ItC (out)) :: H)) := by
 refine SC.enter Try.func25 rfl (Nat.le_of_ble_eq_true rfl) ?_
 refine SW.seq_k fun K0 hK0 => ?_
 refine SW.region _ _ _ _ ?_
 refine RL.nilrow 50 12 ?_
 refine RL.p T ?_
 refine RL.nil _ _ _ _ ?_
 refine hK0 _ _ _ ?_
 refine SW.seq_k fun K1 hK1 => ?_
 refine SW.region _ _ _ _ ?_
 refine RL.nilrow 50 12 ?_
 refine RL.p T ?_
 refine RL.nilrow 50 12 ?_
 refine RL.wk (.row none 0 0 50 12 (List.flatMap ItC (out.take 0)) :: H) ?_
 refine RL.nil _ _ _ _ ?_
 refine hK1 _ _ _ ?_
 refine SW.seq_k fun K2 hK2 => ?_
 refine SW.seq_k fun K3 hK3 => ?_
 refine SW.region _ _ _ _ ?_
 refine RL.p T ?_
 refine RL.p T ?_
 refine RL.p T ?_
 refine RL.nil _ _ _ _ ?_
 refine hK3 _ _ _ ?_
 refine SW.block ?_
 refine SW.loopM (fun frB mm fr ds HH => ∃ (k : Nat) (oa : Option Addr) (oc : Nat), mm = n - k ∧ (k ≤ n ∧ (True)) ∧ FrIs [3, 5, 8, 9, 10, 11, 12, 13, 14, 15, 16] frB fr [(8, .int .i64 k), (3, .slice oa k oc)] ∧ ds = [] ∧ HH = (.row oa k oc 50 12 (List.flatMap ItC (out.take k)) :: H)) (n := n - 0) ?_ ?_
 ·exact ⟨0, none, 0, rfl, ⟨Nat.zero_le _, trivial⟩, (.cons rfl (.cons rfl (.nil (by repeat first | with_reducible exact Mx.refl | with_reducible exact Mx.mix | refine Mx.put rfl ?_ | refine Mx.upd rfl ?_ | refine Mx.updl rfl ?_ | refine Mx.fin rfl ?_ | refine Mx.inner rfl ?_ | refine Mx.none ?_ | exact Mx.refl | exact Mx.mix)))), rfl, rfl⟩
 ·rintro mm fr ds HH ⟨k, oa, oc, rfl, ⟨hk, _⟩, hFr, rfl, eHH⟩
  obtain rfl := eHH.symm
  obtain ⟨frU, rfl⟩ := hFr.eq
  clear hFr
  refine SW.seq_k fun K4 hK4 => ?_
  refine SW.region _ _ _ _ ?_
  refine RL.p T ?_
  refine RL.nil _ _ _ _ ?_
  refine hK4 _ _ _ ?_
  refine SW.seq_k fun K5 hK5 => ?_
  refine SW.cs (fun hc0 => ?_) (fun hc0 => ?_)
  ·skip
   first
    | (exfalso; first | omega | contradiction | (clear hK5 K5; clear hK4 K4; clear hK3 K3; clear hK2 K2; clear hK1 K1; clear hK0 K0; simp at *; done))
    | (
     refine SW.skip ?_
     refine hK5 _ _ _ ?_
     refine SW.seq_k fun K6 hK6 => ?_
     refine SW.block ?_
     refine SW.seq_k fun K7 hK7 => ?_
     refine SW.region _ _ _ _ ?_
     refine RL.ix T ?_ (hR := fun hs => hR.cons)
     refine RL.leN T ?_ (hR := fun hs => hR.cons) (hvs := (by exact (rfl : _ = [_, _, _, _, _, _, _, _, _, _, _, _])))
     refine RL.s ?_
     refine NV.alloc T rfl rfl rfl (by exact (rfl : _ = [_, _, _, _, _, _, _, _, _, _, _, _])) ?_
     intro b5_0
     refine RL.s ?_
     refine NV.sN T rfl rfl rfl (by exact (rfl : _ = [_, _, _, _, _, _, _, _, _, _, _, _])) (by exact (rfl : _ = [_, _, _, _, _, _, _, _, _, _, _, _])) ?_
     refine RL.nil _ _ _ _ ?_
     refine hK7 _ _ _ ?_
     refine SW.region _ _ _ _ ?_
     refine RL.p T ?_
     refine RL.q (QV.vN T rfl rfl rfl rfl rfl (by exact (rfl : _ = [_, _, _, _, _, _, _, _, _, _, _, _]))) ?_
     refine RL.bs T rfl rfl rfl (by exact (rfl : _ = some [_, _, _, _, _, _, _, _, _, _, _, _])) (fun b14_1 => ?_)
     refine RL.apS T ([out.getD k default]) (fun a0_ c0_ => ?_)
     refine RL.p T ?_
     refine RL.nil _ _ _ _ ?_
     refine hK6 _ _ _ ?_
     refine SW.region _ _ _ _ ?_
     first | refine RL.ar ?_ | refine RL.p T ?_
     refine RL.p T ?_
     refine RL.wk (.row a0_ (k + 1) c0_ 50 12 (List.flatMap ItC (out.take k ++ [out.getD k default])) :: H) ?_
     refine RL.nil _ _ _ _ ?_
     exact ⟨n - (k + 1), (by omega), k + 1, a0_, c0_, (by rfl), ⟨by omega, trivial⟩, (.cons rfl (.cons rfl (.nil (by repeat first | with_reducible exact Mx.refl | with_reducible exact Mx.mix | refine Mx.put rfl ?_ | refine Mx.upd rfl ?_ | refine Mx.updl rfl ?_ | refine Mx.fin rfl ?_ | refine Mx.inner rfl ?_ | refine Mx.none ?_ | exact Mx.refl | exact Mx.mix)))), rfl, (by rw [take_it (n := n) (by omega) hn])⟩
     )
  ·skip
   first
    | (exfalso; first | omega | contradiction | (clear hK5 K5; clear hK4 K4; clear hK3 K3; clear hK2 K2; clear hK1 K1; clear hK0 K0; simp at *; done))
    | (
     refine SW.exit ?_
     refine hK2 _ _ _ ?_
     refine SW.seq_k fun K8 hK8 => ?_
     refine SW.region _ _ _ _ ?_
     refine RL.p T ?_
     refine RL.p T ?_
     refine RL.nil _ _ _ _ ?_
     refine hK8 _ _ _ ?_
     refine SW.ret ?_
     obtain rfl : n = k := by omega
     rw [List.take_of_length_le (Nat.le_of_eq hn.symm)]
     refine retQ.wk ((.row oa n oc 50 12 (List.flatMap ItC (out)) :: H)) ?_
     refine retQ.rr _ ?_ (hH := fun w hw => hw)
     clear hK8 K8 hK5 K5 hK4 K4 hK3 K3 hK2 K2 hK1 K1 hK0 K0
     exact ⟨_, _, rfl, rfl⟩
     )
theorem rsame {w0 : World} {H : List Chunk} (x y : It) (hx : FsOk w0 H x.fs) (hy : FsOk w0 H y.fs) : SC Try.prog w0 18 #[ItA x.no x.fs, ItA y.no y.fs] H (fun v H' => v = .bool (decide (x.no = y.no) && sameF x.fs.f y.fs.f) ∧ H' = H) := by
 refine SC.enter Try.func18 rfl (Nat.le_of_ble_eq_true rfl) ?_
 refine SW.seq_k fun K0 hK0 => ?_
 refine SW.region _ _ _ _ ?_
 refine RL.s ?_
 refine NV.box rfl (by exact (rfl : _ = [_, _, _, _, _, _, _, _, _, _, _, _])) ?_
 intro b2_0
 refine RL.s ?_
 refine NV.box rfl (by exact (rfl : _ = [_, _, _, _, _, _, _, _, _, _, _, _])) ?_
 intro b3_1
 refine RL.p T ?_
 refine RL.nil _ _ _ _ ?_
 refine hK0 _ _ _ ?_
 refine SW.seq_k fun K1 hK1 => ?_
 refine SW.region _ _ _ _ ?_
 refine RL.p T ?_
 refine RL.lv1 T ?_
 refine RL.p T ?_
 refine RL.lv1 T ?_
 refine RL.p T ?_
 refine RL.p T ?_
 refine RL.join (fr1 := ?_) 5 10 true [11, 12, 13, 14, 15] (fun hs0 hj => ?_) ?_ ?_
 rotate_left
 ·have hs0j := hs0
  try simp only [decide_eq_true_eq, Bool.not_eq_true', decide_eq_false_iff_not, Bool.not_eq_false', Int.not_lt, Int.not_le, Int.toNat_natCast, Bool.and_eq_true, Bool.or_eq_true, Bool.and_eq_false_iff, Bool.or_eq_false_iff] at hs0
  refine RL.p T ?_
  refine RL.q (QV.vN T rfl rfl rfl rfl rfl (by exact (rfl : _ = [_, _, _, _, _, _, _, _, _, _, _]))) ?_
  refine RL.p T ?_
  refine RL.q (QV.vN T rfl rfl rfl rfl rfl (by exact (rfl : _ = [_, _, _, _, _, _, _, _, _, _, _]))) ?_
  refine RL.c fun36 (fun hs => rfsame x.fs.f x.fs.a x.fs.n x.fs.c (by repeat first | exact hx.rd | apply Rd.cons | apply Rd.app) hx.len hx.max hx.ok y.fs.f y.fs.a y.fs.n y.fs.c (by repeat first | exact hy.rd | apply Rd.cons | apply Rd.app) hy.len hy.max hy.ok) ?_
  rintro _ _ ⟨rfl, e⟩; obtain rfl := e.symm
  exact hj
 ·repeat first | with_reducible exact Mx.refl | with_reducible exact Mx.mix | refine Mx.put rfl ?_ | refine Mx.upd rfl ?_ | refine Mx.updl rfl ?_ | refine Mx.fin rfl ?_ | refine Mx.inner rfl ?_ | refine Mx.none ?_ | exact Mx.refl | exact Mx.mix
 refine RL.and ?_
 refine RL.p T ?_
 refine RL.nil _ _ _ _ ?_
 refine hK1 _ _ _ ?_
 refine SW.ret ?_
 refine retQ.rr (H) ?_
 clear hK1 K1 hK0 K0
 exact ⟨rfl, rfl⟩
theorem sames {w0 : World} {H : List Chunk} (ps qs : List It) (sa sb : Option Addr) (n c m d : Nat) (hR : Rd w0 H sa n c 12 (ps.flatMap ItC)) (hS : Rd w0 H sb m d 12 (qs.flatMap ItC)) (hn : n = ps.length) (hm : m = qs.length) (hn2 : n ≤ 4398046511104) (hm2 : m ≤ 4398046511104) (hA : ∀ x ∈ ps, FsOk w0 H x.fs) (hB : ∀ x ∈ qs, FsOk w0 H x.fs) (he : ps.map itP = qs.map itP) : SC Try.prog w0 24 #[.slice sa n c, .slice sb m d] H (fun v H' => v = .bool true ∧ H' = H) := by
 refine SC.enter Try.func24 rfl (Nat.le_of_ble_eq_true rfl) ?_
 refine SW.seq_k fun K0 hK0 => ?_
 have hnm : n = m := by have := congrArg List.length he; simp only [List.length_map] at this; omega
 refine SW.region _ _ _ _ ?_
 refine RL.p T ?_
 refine RL.nil _ _ _ _ ?_
 refine hK0 _ _ _ ?_
 refine SW.seq_k fun K1 hK1 => ?_
 refine SW.seq_k fun K2 hK2 => ?_
 refine SW.region _ _ _ _ ?_
 refine RL.p T ?_
 refine RL.p T ?_
 refine RL.p T ?_
 refine RL.p T ?_
 refine RL.p T ?_
 refine RL.nil _ _ _ _ ?_
 refine hK2 _ _ _ ?_
 refine SW.cs (fun hc0 => ?_) (fun hc0 => ?_)
 ·skip
  first
   | (exfalso; first | omega | contradiction | (clear hK2 K2; clear hK1 K1; clear hK0 K0; simp at *; done))
   | (
    refine SW.seq_k fun K3 hK3 => ?_
    refine SW.region _ _ _ _ ?_
    refine RL.p T ?_
    refine RL.nil _ _ _ _ ?_
    refine hK3 _ _ _ ?_
    refine SW.ret ?_
    refine retQ.rr (H) ?_
    clear hK3 K3 hK2 K2 hK1 K1 hK0 K0
    exact ⟨rfl, rfl⟩
    )
 ·skip
  first
   | (exfalso; first | omega | contradiction | (clear hK2 K2; clear hK1 K1; clear hK0 K0; simp at *; done))
   | (
    refine SW.skip ?_
    refine hK1 _ _ _ ?_
    refine SW.seq_k fun K4 hK4 => ?_
    refine SW.seq_k fun K5 hK5 => ?_
    refine SW.region _ _ _ _ ?_
    refine RL.p T ?_
    refine RL.p T ?_
    refine RL.p T ?_
    refine RL.nil _ _ _ _ ?_
    refine hK5 _ _ _ ?_
    refine SW.block ?_
    refine SW.loopM (fun frB mm fr ds HH => ∃ (k : Nat) , mm = n - k ∧ (k ≤ n ∧ (True)) ∧ FrIs [4, 5, 13, 14, 15, 16, 17, 18, 19, 20, 21, 22, 23, 24, 25, 26] frB fr [(13, .int .i64 k)] ∧ ds = [] ∧ HH = H) (n := n - 0) ?_ ?_
    ·exact ⟨0, rfl, ⟨Nat.zero_le _, trivial⟩, (.cons rfl (.nil (by repeat first | with_reducible exact Mx.refl | with_reducible exact Mx.mix | refine Mx.put rfl ?_ | refine Mx.upd rfl ?_ | refine Mx.updl rfl ?_ | refine Mx.fin rfl ?_ | refine Mx.inner rfl ?_ | refine Mx.none ?_ | exact Mx.refl | exact Mx.mix))), rfl, rfl⟩
    ·rintro mm fr ds HH ⟨k, rfl, ⟨hk, _⟩, hFr, rfl, eHH⟩
     obtain rfl := eHH.symm
     obtain ⟨frU, rfl⟩ := hFr.eq
     clear hFr
     have ha := getI_mem hA k
     have hb := getI_mem hB k
     have hg := it_eq he k
     refine SW.seq_k fun K6 hK6 => ?_
     refine SW.region _ _ _ _ ?_
     refine RL.p T ?_
     refine RL.nil _ _ _ _ ?_
     refine hK6 _ _ _ ?_
     refine SW.seq_k fun K7 hK7 => ?_
     refine SW.cs (fun hc1 => ?_) (fun hc1 => ?_)
     ·skip
      first
       | (exfalso; first | omega | contradiction | (clear hK7 K7; clear hK6 K6; clear hK5 K5; clear hK4 K4; clear hK2 K2; clear hK1 K1; clear hK0 K0; simp at *; done))
       | (
        refine SW.skip ?_
        refine hK7 _ _ _ ?_
        refine SW.seq_k fun K8 hK8 => ?_
        refine SW.block ?_
        refine SW.seq_k fun K9 hK9 => ?_
        refine SW.region _ _ _ _ ?_
        refine RL.p T ?_
        refine RL.p T ?_
        refine RL.nil _ _ _ _ ?_
        refine hK9 _ _ _ ?_
        refine SW.seq_k fun K10 hK10 => ?_
        refine SW.drawQ [(16, 0), (17, 1), (18, 2), (19, 3), (20, 4), (21, 5), (22, 6), (23, 7), (24, 8), (25, 9)] [[], [], [0, 1], [2, 0, 1], [], [], [4, 5], [6, 4, 5], [3, 2, 0, 1, 7, 6, 4, 5], [8, 3, 2, 0, 1, 7, 6, 4, 5]] mixed (by kernel_rfl) (by kernel_rfl) ?_
        refine QL.p T ?_
        refine QL.p T ?_
        refine QL.ix T ?_ (hR := fun hs => (by first | exact hR | exact hS))
        refine QL.leN T ?_ (hR := fun hs => (by first | exact hR | exact hS)) (hvs := (by exact (rfl : _ = [_, _, _, _, _, _, _, _, _, _, _, _])))
        refine QL.p T ?_
        refine QL.p T ?_
        refine QL.ix T ?_ (hR := fun hs => (by first | exact hR | exact hS))
        refine QL.leN T ?_ (hR := fun hs => (by first | exact hR | exact hS)) (hvs := (by exact (rfl : _ = [_, _, _, _, _, _, _, _, _, _, _, _])))
        refine QL.c fun18 (fun hs => (rsame (ps.getD k default) (qs.getD k default) ha hb).mono (fun v H' h => by rw [hg.1, hg.2, sameF_refl, decide_eq_true rfl] at h; exact h)) ?_
        refine QL.p T ?_
        refine QL.nil ?_
        refine hK10 _ _ _ ?_
        refine SW.cs (fun hc2 => ?_) (fun hc2 => ?_)
        ·skip
         first
          | (exfalso; first | omega | contradiction | (clear hK10 K10; clear hK9 K9; clear hK8 K8; clear hK7 K7; clear hK6 K6; clear hK5 K5; clear hK4 K4; clear hK2 K2; clear hK1 K1; clear hK0 K0; simp at *; done))
          | (
           refine SW.seq_k fun K11 hK11 => ?_
           refine SW.region _ _ _ _ ?_
           refine RL.p T ?_
           refine RL.nil _ _ _ _ ?_
           refine hK11 _ _ _ ?_
           refine SW.ret ?_
           refine retQ.rr (H) ?_
           clear hK11 K11 hK10 K10 hK9 K9 hK8 K8 hK7 K7 hK6 K6 hK5 K5 hK4 K4 hK2 K2 hK1 K1 hK0 K0
           exact ⟨rfl, rfl⟩
           )
        ·skip
         first
          | (exfalso; first | omega | contradiction | (clear hK10 K10; clear hK9 K9; clear hK8 K8; clear hK7 K7; clear hK6 K6; clear hK5 K5; clear hK4 K4; clear hK2 K2; clear hK1 K1; clear hK0 K0; simp at *; done))
          | (
           refine SW.skip ?_
           refine hK8 _ _ _ ?_
           refine SW.region _ _ _ _ ?_
           first | refine RL.ar ?_ | refine RL.p T ?_
           refine RL.p T ?_
           refine RL.nil _ _ _ _ ?_
           exact ⟨n - (k + 1), (by omega), k + 1, (by rfl), ⟨by omega, trivial⟩, (.cons rfl (.nil (by repeat first | with_reducible exact Mx.refl | with_reducible exact Mx.mix | refine Mx.put rfl ?_ | refine Mx.upd rfl ?_ | refine Mx.updl rfl ?_ | refine Mx.fin rfl ?_ | refine Mx.inner rfl ?_ | refine Mx.none ?_ | exact Mx.refl | exact Mx.mix))), rfl, rfl⟩
           )
        )
     ·skip
      first
       | (exfalso; first | omega | contradiction | (clear hK7 K7; clear hK6 K6; clear hK5 K5; clear hK4 K4; clear hK2 K2; clear hK1 K1; clear hK0 K0; simp at *; done))
       | (
        refine SW.exit ?_
        refine hK4 _ _ _ ?_
        refine SW.seq_k fun K12 hK12 => ?_
        refine SW.region _ _ _ _ ?_
        refine RL.p T ?_
        refine RL.nil _ _ _ _ ?_
        refine hK12 _ _ _ ?_
        refine SW.ret ?_
        refine retQ.rr (H) ?_
        clear hK12 K12 hK7 K7 hK6 K6 hK5 K5 hK4 K4 hK2 K2 hK1 K1 hK0 K0
        exact ⟨rfl, rfl⟩
        )
    )
end Go.Proofs.Ytjemdjjmpgjieaa.M
