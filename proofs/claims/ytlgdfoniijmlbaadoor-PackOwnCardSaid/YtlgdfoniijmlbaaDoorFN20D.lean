import Derived.Test.YtlgdfoniijmlbaaDoorProg
import Derived.Test.YtlgdfoniijmlbaaDoorFL20D
set_option linter.unusedVariables false
set_option linter.unusedSimpArgs false
namespace Go.Proofs.YtlgdfoniijmlbaaDoor.M
open Go Go.Sep Go.Proofs
set_option maxRecDepth 10000
set_option maxHeartbeats 2000000
def rowP (p : Pd) : Chunk := .row p.a p.n p.c 5 1 (List.map (Value.int .u8) p.data)
def rowsP (ps : List Pd) : List Chunk := (ps.map rowP).reverse
theorem rowsP_snoc (ps : List Pd) (p : Pd) : rowsP (ps ++ [p]) = rowP p :: rowsP ps := by simp [rowsP]
theorem waitsR {w0 : World} {H : List Chunk} (b room wait age : Nat) (used : Int) (la : Option Addr) (ln lc : Nat) {kk : Chunk → List Chunk} (hat : At H (.var b 55 [.int .i64 ((room : Nat) : Int), .int .i64 ((wait : Nat) : Int), .slice la ln lc, .int .i64 used, .int .i64 ((age : Nat) : Int)]) kk) (l : List Pd) (hB : Rd w0 H la ln lc 2 (l.flatMap PdC)) (hn : ln = l.length) (hln : ln ≤ 4000) (hok : ∀ y ∈ l, PdOk w0 H y) : SC Tryd.prog w0 13 #[.pointer (some ⟨b, 0, none⟩)] H (fun v H' => ∃ a c ws, v = .slice a ln c ∧ H' = .row a ln c 35 2 (List.flatMap PdC ws) :: (rowsP ws ++ H) ∧ mg ws = mg l ∧ (∀ y ∈ ws, y.n = y.data.length)) := by
 refine SC.enter Tryd.func13 rfl (Nat.le_of_ble_eq_true rfl) ?_
 refine SW.seq_k fun K0 hK0 => ?_
 refine SW.region _ _ _ _ ?_
 refine RL.p T ?_
 refine RL.nil _ _ _ _ ?_
 refine hK0 _ _ _ ?_
 refine SW.seq_k fun K1 hK1 => ?_
 refine SW.seq_k fun K2 hK2 => ?_
 refine SW.region _ _ _ _ ?_
 refine RL.p T ?_
 refine RL.p T ?_
 refine RL.nil _ _ _ _ ?_
 refine hK2 _ _ _ ?_
 refine SW.cs (fun hc0 => ?_) (fun hc0 => ?_)
 ·skip
  first
   | (exfalso; first | omega | contradiction | (clear hK2 K2; clear hK1 K1; clear hK0 K0; simp at *; done))
   | (
    refine SW.seq_k fun K3 hK3 => ?_
    refine SW.region _ _ _ _ ?_
    refine RL.p T ?_
    refine RL.nil _ _ _ _ ?_
    refine hK3 _ _ _ ?_
    refine SW.ret ?_
    refine retQ.rr ((.row a k c 35 2 (List.flatMap PdC ws) :: (rowsP ws ++ H))) ?_
    clear hK3 K3 hK2 K2 hK1 K1 hK0 K0
    obtain rfl : k = ln := by omega
    exact ⟨a, c, ws, rfl, rfl, by rw [hws, List.take_of_length_le (by rw [mg_len]; omega)], hwo⟩
    )
 ·skip
  first
   | (exfalso; first | omega | contradiction | (clear hK2 K2; clear hK1 K1; clear hK0 K0; simp at *; done))
   | (
    refine SW.skip ?_
    refine hK1 _ _ _ ?_
    refine SW.seq_k fun K4 hK4 => ?_
    refine SW.seq_k fun K5 hK5 => ?_
    refine SW.nilrow 35 2 ?_
    refine SW.region _ _ _ _ ?_
    refine RL.p T ?_
    refine RL.p T ?_
    refine RL.p T ?_
    first | refine RL.lv1 T ?_ | refine RL.le T ?_ (hR := fun hs => (by first | exact hB.cons.app.cons | (repeat first | exact hB | apply Rd.cons | apply Rd.app)))
    refine RL.p T ?_
    refine RL.p T ?_
    refine RL.nil _ _ _ _ ?_
    refine hK5 _ _ _ ?_
    refine SW.block ?_
    refine SW.loopM (fun frB mm fr ds HH => ∃ (k : Nat) (a : Option Addr) (c : Nat) (ws : List Pd), mm = ln - k ∧ (k ≤ ln ∧ mg ws = (mg l).take k ∧ (∀ y ∈ ws, y.n = y.data.length)) ∧ FrIs [2, 4, 12, 13, 14, 15, 16, 17, 18, 19, 20, 21, 22, 23, 24, 25] frB fr [(2, .slice a k c), (12, .int .i64 k)] ∧ ds = [] ∧ HH = (.row a k c 35 2 (List.flatMap PdC ws) :: (rowsP ws ++ H))) (n := ln - 0) ?_ ?_
    ·exact ⟨0, none, 0, [], rfl, ⟨Nat.zero_le _, rfl, fun _ h => by cases h⟩, (.cons rfl (.consI rfl (by first | omega | rfl) (.nil (by repeat first | with_reducible exact Mx.refl | with_reducible exact Mx.mix | refine Mx.put rfl ?_ | refine Mx.upd rfl ?_ | refine Mx.updl rfl ?_ | refine Mx.fin rfl ?_ | refine Mx.inner rfl ?_ | refine Mx.none ?_ | exact Mx.refl | exact Mx.mix)))), rfl, rfl⟩
    ·rintro mm fr ds HH ⟨k, a, c, ws, rfl, ⟨hk, hws, hwo⟩, hFr, rfl, eHH⟩
     obtain rfl := eHH.symm
     obtain ⟨frU, rfl⟩ := hFr.eq
     clear hFr
     have hx := pd_mem hok k
     refine SW.seq_k fun K6 hK6 => ?_
     refine SW.region _ _ _ _ ?_
     refine RL.p T ?_
     refine RL.nil _ _ _ _ ?_
     refine hK6 _ _ _ ?_
     refine SW.seq_k fun K7 hK7 => ?_
     refine SW.cs (fun hc1 => ?_) (fun hc1 => ?_)
     ·skip
      first
       | (exfalso; first | omega | contradiction | (clear hK7 K7; clear hK6 K6; clear hK5 K5; clear hK4 K4; clear hK2 K2; clear hK1 K1; clear hK0 K0; simp at *; done))
       | (
        refine SW.skip ?_
        refine hK7 _ _ _ ?_
        refine SW.seq_k fun K8 hK8 => ?_
        refine SW.block ?_
        refine SW.seq_k fun K9 hK9 => ?_
        refine SW.region _ _ _ _ ?_
        refine RL.ix T ?_ (hR := fun hs => (by first | exact hB.cons.app.cons | (repeat first | exact hB | apply Rd.cons | apply Rd.app)))
        refine RL.leN T ?_ (hR := fun hs => (by first | exact hB.cons.app.cons | (repeat first | exact hB | apply Rd.cons | apply Rd.app))) (hvs := (by exact (rfl : _ = [_, _])))
        refine RL.s ?_
        refine NV.alloc T rfl rfl rfl (by exact (rfl : _ = [_, _])) ?_
        intro b4_0
        refine RL.s ?_
        refine NV.sN T rfl rfl rfl (by exact (rfl : _ = [_, _])) (by exact (rfl : _ = [_, _])) ?_
        refine RL.nil _ _ _ _ ?_
        refine hK9 _ _ _ ?_
        refine SW.draw [(16, 0), (17, 1), (18, 2), (19, 3), (20, 4), (21, 5), (22, 6), (23, 7), (24, 8), (2, 9)] [[], [], [1], [], [3], [4, 3], [2, 1, 5, 4, 3], [6, 2, 1, 5, 4, 3], [0, 7, 6, 2, 1, 5, 4, 3], [8, 0, 7, 6, 2, 1, 5, 4, 3]] mixed (by kernel_rfl) (by kernel_rfl) ?_
        refine RD.p T ?_
        refine RD.p T ?_
        refine RD.q rfl rfl (Gd.none rfl) (QV.v1 T) ?_
        refine RD.p T ?_
        refine RD.q rfl rfl (Gd.none rfl) (QV.v1 T) ?_
        refine RD.nv rfl rfl rfl (Gd.none rfl) ?_
        refine NV.call rfl rfl rfl fun21 rfl rfl (clone (l.getD k default).a (l.getD k default).n (l.getD k default).c (l.getD k default).data (by repeat first | exact hx.rd | apply Rd.cons | apply Rd.app) hx.len hx.max) ?_
        rintro _ _ ⟨aC, cC, rfl, e⟩; obtain rfl := e.symm
        refine ⟨(Stab.cons rfl (Gd.none rfl) (QV.v1 T) (Stab.cons rfl (Gd.none rfl) (pev_sound T rfl) (Stab.cons rfl (Gd.none rfl) (pev_sound T rfl) Stab.nil))), ?_⟩
        refine RD.q rfl rfl (Gd.none rfl) (by first | exact QV.buildc T rfl (rfl : _ = some [_, _]) | exact pev_sound T (rfl : _ = some (Value.agg #[_, _]))) ?_
        refine RD.nv rfl rfl rfl (Gd.none rfl) ?_
        refine NV.build1 T rfl (by conv => lhs; whnf) rfl rfl (by conv => lhs; whnf) (by exact (rfl : _ = some [_, _])) ?_
        intro b23_1
        refine ⟨(Stab.cons rfl (Gd.none rfl) (pev_sound T rfl) Stab.nil), ?_⟩
        refine RD.nv rfl rfl rfl (Gd.none rfl) ?_
        refine NV.apR (enc := PdC) T _ (ys := [(⟨(l.getD k default).id, (l.getD k default).data, aC, (l.getD k default).n, cC⟩ : Pd)]) (fun a4 c4 => ?_)
        refine ⟨Stab.nil, ?_⟩
        refine RD.p T ?_
        refine RD.k rfl rfl ?_
        refine hK8 _ _ _ ?_
        refine SW.wk (.row a4 (k + 1) c4 35 2 (List.flatMap PdC (ws ++ [(⟨(l.getD k default).id, (l.getD k default).data, aC, (l.getD k default).n, cC⟩ : Pd)])) :: (rowP (⟨(l.getD k default).id, (l.getD k default).data, aC, (l.getD k default).n, cC⟩ : Pd) :: rowsP ws ++ H)) ?_
        refine SW.region _ _ _ _ ?_
        first | refine RL.ar ?_ | refine RL.p T ?_
        refine RL.p T ?_
        refine RL.nil _ _ _ _ ?_
        exact ⟨ln - (k + 1), (by omega), k + 1, a4, c4, ws ++ [(⟨(l.getD k default).id, (l.getD k default).data, aC, (l.getD k default).n, cC⟩ : Pd)], (by rfl), ⟨by omega, by rw [mg_app, hws, mg_take_succ (by omega)]; rfl, fun y hy => (List.mem_append.1 hy).elim (hwo y) (fun h => by rw [List.mem_singleton.1 h]; exact hx.len)⟩, (.cons rfl (.consI rfl (by first | omega | rfl) (.nil (by repeat first | with_reducible exact Mx.refl | with_reducible exact Mx.mix | refine Mx.put rfl ?_ | refine Mx.upd rfl ?_ | refine Mx.updl rfl ?_ | refine Mx.fin rfl ?_ | refine Mx.inner rfl ?_ | refine Mx.none ?_ | exact Mx.refl | exact Mx.mix)))), rfl, (by rw [rowsP_snoc])⟩
        )
     ·skip
      first
       | (exfalso; first | omega | contradiction | (clear hK7 K7; clear hK6 K6; clear hK5 K5; clear hK4 K4; clear hK2 K2; clear hK1 K1; clear hK0 K0; simp at *; done))
       | (
        refine SW.exit ?_
        refine hK4 _ _ _ ?_
        refine SW.seq_k fun K10 hK10 => ?_
        refine SW.region _ _ _ _ ?_
        refine RL.p T ?_
        refine RL.p T ?_
        refine RL.nil _ _ _ _ ?_
        refine hK10 _ _ _ ?_
        refine SW.ret ?_
        refine retQ.rr ((.row a k c 35 2 (List.flatMap PdC ws) :: (rowsP ws ++ H))) ?_
        clear hK10 K10 hK7 K7 hK6 K6 hK5 K5 hK4 K4 hK2 K2 hK1 K1 hK0 K0
        obtain rfl : k = ln := by omega
        exact ⟨a, c, ws, rfl, rfl, by rw [hws, List.take_of_length_le (by rw [mg_len]; omega)], hwo⟩
        )
    )
theorem packOwn {w0 : World} {H : List Chunk} (p : Pd) (hp : ∀ H, PdOk w0 H p) : SC Tryd.prog w0 4 #[PdA p] H (fun v H' => v = .bool true ∧ H' = H) := by
 refine SC.enter Tryd.func4 rfl (Nat.le_of_ble_eq_true rfl) ?_
 refine SW.seq_k fun K0 hK0 => ?_
 refine SW.region _ _ _ _ ?_
 refine RL.s ?_
 refine NV.box rfl (by exact (rfl : _ = [_, _])) ?_
 intro b1_0
 refine RL.p T ?_
 refine RL.nil _ _ _ _ ?_
 refine hK0 _ _ _ ?_
 refine SW.seq_k fun K1 hK1 => ?_
 refine SW.seq_k fun K2 hK2 => ?_
 refine SW.region _ _ _ _ ?_
 refine RL.c fun7 (fun hs => alive) ?_
 rintro _ _ ⟨rfl, e⟩; obtain rfl := e.symm
 refine RL.p T ?_
 refine RL.nil _ _ _ _ ?_
 refine hK2 _ _ _ ?_
 refine SW.cs (fun hc0 => ?_) (fun hc0 => ?_)
 ·skip
  first
   | (exfalso; first | omega | contradiction | (clear hK2 K2; clear hK1 K1; clear hK0 K0; simp at *; done))
   | (
    refine SW.seq_k fun K3 hK3 => ?_
    refine SW.region _ _ _ _ ?_
    refine RL.p T ?_
    refine RL.nil _ _ _ _ ?_
    refine hK3 _ _ _ ?_
    refine SW.ret ?_
    refine retQ.rr (H) ?_
    clear hK3 K3 hK2 K2 hK1 K1 hK0 K0
    first
      | exact ⟨rfl, rfl⟩
      | exact ⟨boolE (decide_eq_true (by omega)), rfl⟩
    )
 ·skip
  first
   | (exfalso; first | omega | contradiction | (clear hK2 K2; clear hK1 K1; clear hK0 K0; simp at *; done))
   | (
    refine SW.skip ?_
    refine hK1 _ _ _ ?_
    refine SW.seq_k fun K4 hK4 => ?_
    refine SW.region _ _ _ _ ?_
    refine RL.c fun8 (fun hs => new_ok 2048 5 (by omega)) ?_
    rintro _ _ ⟨b, rfl, e⟩; obtain rfl := e.symm
    refine RL.p T ?_
    refine RL.p T ?_
    refine RL.p T ?_
    refine RL.p T ?_
    refine RL.p T ?_
    refine RL.nil _ _ _ _ ?_
    refine hK4 _ _ _ ?_
    refine SW.seq_k fun K5 hK5 => ?_
    refine SW.seq_k fun K6 hK6 => ?_
    refine SW.region _ _ _ _ ?_
    refine RL.p T ?_
    refine RL.lv1 T ?_
    refine RL.p T ?_
    refine RL.p T ?_
    refine RL.nil _ _ _ _ ?_
    refine hK6 _ _ _ ?_
    refine SW.cs (fun hc1 => ?_) (fun hc1 => ?_)
    ·skip
     first
      | (exfalso; first | omega | contradiction | (clear hK6 K6; clear hK5 K5; clear hK4 K4; clear hK2 K2; clear hK1 K1; clear hK0 K0; simp at *; done))
      | (
       refine SW.seq_k fun K7 hK7 => ?_
       refine SW.region _ _ _ _ ?_
       refine RL.p T ?_
       refine RL.nil _ _ _ _ ?_
       refine hK7 _ _ _ ?_
       refine SW.ret ?_
       refine retQ.rr (H) ?_
       clear hK7 K7 hK6 K6 hK5 K5 hK4 K4 hK2 K2 hK1 K1 hK0 K0
       first
         | exact ⟨rfl, rfl⟩
         | exact ⟨boolE (decide_eq_true (by omega)), rfl⟩
       )
    ·skip
     first
      | (exfalso; first | omega | contradiction | (clear hK6 K6; clear hK5 K5; clear hK4 K4; clear hK2 K2; clear hK1 K1; clear hK0 K0; simp at *; done))
      | (
       refine SW.skip ?_
       refine hK5 _ _ _ ?_
       refine SW.seq_k fun K8 hK8 => ?_
       refine SW.region _ _ _ _ ?_
       refine RL.bs T rfl rfl rfl (by exact (rfl : _ = some [])) (fun b25_1 => ?_)
       refine RL.p T ?_
       refine RL.lv1 T ?_
       refine RL.apI (ki := .u8) (xs := []) (ys := p.data) T (fun a0_ c0_ => ?_) (hR := fun hs => by repeat first | exact (hp H).rd | apply Rd.cons)
       refine RL.p T ?_
       refine RL.nil _ _ _ _ ?_
       refine hK8 _ _ _ ?_
       refine SW.seq_k fun K9 hK9 => ?_
       refine SW.nilrow 35 2 ?_
       have hpl := (hp H).len
       have hwb := whole_ge p.data.length
       have hwk : wk (mgP p) ≤ 1511 := by show wholeN p.data.length ≤ 1511; omega
       have hmk := mok_pd (hp H) (by omega : wk (mgP p) ≤ 2048)
       have hz0 : usedM (mg []) = 0 := rfl
       refine SW.region _ _ _ _ ?_
       refine RL.p T ?_
       refine RL.p T ?_
       refine RL.lv1 T ?_
       refine RL.p T ?_
       refine RL.s ?_
       first | refine NV.buildc T rfl (rfl : _ = some [_, _]) ?_ | refine NV.buildz T rfl (rfl : _ = some [_, _]) ?_ | refine NV.pure T (rfl : _ = some (Value.agg #[_, _])) ?_
       refine RL.c fun9 (fun hs => SC.wk (addU (⟨p.id, p.data, a0_, 0 + p.n, c0_⟩ : Pd) ⟨(hp H).id, (Nat.zero_add _).trans (hp H).len, Nat.le_trans (Nat.le_of_eq (Nat.zero_add p.n)) (hp H).max, (hp H).byte, Rd.rowh (satT (H0 := .row a0_ (0 + p.n) c0_ 5 1 (List.map (Value.int .u8) ([] ++ p.data)) :: .var b1_0 32 (PdC p) :: H) hs) (At.head _ _)⟩ b 2048 5 0 0 none 0 0 [] rfl rfl (by omega) (by simp) (by omega) (by omega) (H := .row a0_ (0 + p.n) c0_ 5 1 (List.map (Value.int .u8) ([] ++ p.data)) :: .var b1_0 32 (PdC p) :: H))) ?_
       rintro _ _ ⟨D1, oa1, on1, oc1, os1, la1, ln1, lc1, l1, age1, us1, rfl, e, hon1, hln1, hus1, hos1, hl1, hag1, hoq1, hly1⟩; obtain rfl := e.symm
       have hw1 := one_way (room := 2048) (m := mgP p) (by omega)
       have hnb := addNn (room := 2048) (ms := []) (m := mgP p) (by simp only [usedM]; omega)
       have hao : addOu 2048 (mg []) (mgP (⟨p.id, p.data, a0_, 0 + p.n, c0_⟩ : Pd)) = [] := by show (if wk (mgP p) ≤ 2048 then addO 2048 [] (mgP p) else []) = []; rw [if_pos (by omega)]; exact hnb.1
       have hal : mg l1 = [mgP p] := by rw [hl1]; show (if wk (mgP p) ≤ 2048 then addL 2048 [] (mgP p) else []) = _; rw [if_pos (by omega)]; exact hnb.2
       have hE : addE 2048 (mgP (⟨p.id, p.data, a0_, 0 + p.n, c0_⟩ : Pd)) = 0 := if_pos (by show wk (mgP p) ≤ 2048; omega)
       rw [hE]
       obtain ⟨y, rfl⟩ : ∃ y, l1 = [y] := by
         have := mg_len l1; rw [hal] at this
         exact List.length_eq_one_iff.1 this.symm
       obtain rfl : ln1 = 1 := hln1
       have hlo1 : ∀ z ∈ [y], PdOk w0 D1 z := fun z hz => (hly1 z hz).resolve_left (by simp)
       have hu1 : usedM (mg [y]) ≤ 2048 := by rw [hal, usedM_one]; omega
       refine RL.p T ?_
       refine RL.p T ?_
       refine RL.p T ?_
       refine RL.p T ?_
       refine RL.p T ?_
       refine RL.wk (.row oa1 on1 oc1 30 1 (List.flatMap SlC os1) :: .var b 55 [.int .i64 ((2048 : Nat) : Int), .int .i64 ((5 : Nat) : Int), .slice la1 1 lc1, .int .i64 us1, .int .i64 ((age1 : Nat) : Int)] :: .row la1 1 lc1 35 2 (List.flatMap PdC [y]) :: (D1 ++ (.row a0_ (0 + p.n) c0_ 5 1 (List.map (Value.int .u8) ([] ++ p.data)) :: .var b1_0 32 (PdC p) :: H))) ?_
       refine RL.nil _ _ _ _ ?_
       refine hK9 _ _ _ ?_
       refine SW.seq_k fun K10 hK10 => ?_
       refine SW.seq_k fun K11 hK11 => ?_
       refine SW.region _ _ _ _ ?_
       refine RL.p T ?_
       refine RL.p T ?_
       refine RL.p T ?_
       refine RL.nil _ _ _ _ ?_
       refine hK11 _ _ _ ?_
       refine SW.block ?_
       refine SW.loopM (fun frB mm fr ds HH => ∃ (k : Nat) (xs : List Int), mm = p.n - k ∧ (k ≤ p.n ∧ xs.length = p.n) ∧ FrIs [8, 40, 41, 42, 43, 44, 45, 46, 47, 48, 49] frB fr [(40, .int .i64 k)] ∧ ds = [] ∧ HH = (.row oa1 on1 oc1 30 1 (List.flatMap SlC os1) :: .var b 55 [.int .i64 ((2048 : Nat) : Int), .int .i64 ((5 : Nat) : Int), .slice la1 1 lc1, .int .i64 us1, .int .i64 ((age1 : Nat) : Int)] :: .row la1 1 lc1 35 2 (List.flatMap PdC [y]) :: (D1 ++ (.row a0_ (0 + p.n) c0_ 5 1 (List.map (Value.int .u8) (xs)) :: .var b1_0 32 (PdC p) :: H)))) (n := p.n - 0) ?_ ?_
       ·exact ⟨0, [] ++ p.data, rfl, ⟨Nat.zero_le _, hpl.symm⟩, (.consI rfl (by first | omega | rfl) (.nil (by repeat first | with_reducible exact Mx.refl | with_reducible exact Mx.mix | refine Mx.put rfl ?_ | refine Mx.upd rfl ?_ | refine Mx.updl rfl ?_ | refine Mx.fin rfl ?_ | refine Mx.inner rfl ?_ | refine Mx.none ?_ | exact Mx.refl | exact Mx.mix))), rfl, rfl⟩
       ·rintro mm fr ds HH ⟨k, xs, rfl, ⟨hk, hxl⟩, hFr, rfl, eHH⟩
        obtain rfl := eHH.symm
        obtain ⟨frU, rfl⟩ := hFr.eq
        clear hFr
        refine SW.seq_k fun K12 hK12 => ?_
        refine SW.region _ _ _ _ ?_
        refine RL.p T ?_
        refine RL.nil _ _ _ _ ?_
        refine hK12 _ _ _ ?_
        refine SW.seq_k fun K13 hK13 => ?_
        refine SW.cs (fun hc2 => ?_) (fun hc2 => ?_)
        ·skip
         first
          | (exfalso; first | omega | contradiction | (clear hK13 K13; clear hK12 K12; clear hK11 K11; clear hK10 K10; clear hK9 K9; clear hK8 K8; clear hK6 K6; clear hK5 K5; clear hK4 K4; clear hK2 K2; clear hK1 K1; clear hK0 K0; simp at *; done))
          | (
           refine SW.skip ?_
           refine hK13 _ _ _ ?_
           refine SW.seq_k fun K14 hK14 => ?_
           refine SW.block ?_
           refine SW.seq_k fun K15 hK15 => ?_
           refine SW.region _ _ _ _ ?_
           refine RL.p T ?_
           refine RL.p T ?_
           refine RL.nil _ _ _ _ ?_
           refine hK15 _ _ _ ?_
           refine SW.region _ _ _ _ ?_
           refine RL.p T ?_
           refine RL.p T ?_
           refine RL.ix T ?_
           refine RL.le T ?_ (hv := (by first | exact slc_get (by omega) | exact map_get _ _ (by omega)))
           first | refine RL.arK ?_ | refine RL.p T ?_
           refine RL.ix T ?_
           refine RL.sei T ?_
           refine RL.nil _ _ _ _ ?_
           refine hK14 _ _ _ ?_
           refine SW.region _ _ _ _ ?_
           first | refine RL.ar ?_ | refine RL.p T ?_
           refine RL.p T ?_
           refine RL.nil _ _ _ _ ?_
           exact ⟨p.n - (k + 1), (by omega), k + 1, _, (by rfl), ⟨by omega, by rw [List.length_set]; exact hxl⟩, (.consI rfl (by first | omega | rfl) (.nil (by repeat first | with_reducible exact Mx.refl | with_reducible exact Mx.mix | refine Mx.put rfl ?_ | refine Mx.upd rfl ?_ | refine Mx.updl rfl ?_ | refine Mx.fin rfl ?_ | refine Mx.inner rfl ?_ | refine Mx.none ?_ | exact Mx.refl | exact Mx.mix))), rfl, rfl⟩
           )
        ·skip
         first
          | (exfalso; first | omega | contradiction | (clear hK13 K13; clear hK12 K12; clear hK11 K11; clear hK10 K10; clear hK9 K9; clear hK8 K8; clear hK6 K6; clear hK5 K5; clear hK4 K4; clear hK2 K2; clear hK1 K1; clear hK0 K0; simp at *; done))
          | (
           refine SW.exit ?_
           refine hK10 _ _ _ ?_
           refine SW.seq_k fun K16 hK16 => ?_
           refine SW.seq_k fun K17 hK17 => ?_
           refine SW.region _ _ _ _ ?_
           refine RL.p T ?_
           refine RL.c fun13 (fun hs => SC.wk (waitsR b 2048 5 age1 us1 la1 1 lc1 (At.head _ _) [y] (Rd.rowh (satT (H0 := .var b 55 [.int .i64 ((2048 : Nat) : Int), .int .i64 ((5 : Nat) : Int), .slice la1 1 lc1, .int .i64 us1, .int .i64 ((age1 : Nat) : Int)] :: .row la1 1 lc1 35 2 (List.flatMap PdC [y]) :: (D1 ++ (.var b1_0 32 (PdC p) :: H))) hs) (At.tail (At.head _ _))) rfl (by omega) (fun z hz => (hlo1 z hz).sub SubL.by) (H := .var b 55 [.int .i64 ((2048 : Nat) : Int), .int .i64 ((5 : Nat) : Int), .slice la1 1 lc1, .int .i64 us1, .int .i64 ((age1 : Nat) : Int)] :: .row la1 1 lc1 35 2 (List.flatMap PdC [y]) :: (D1 ++ (.var b1_0 32 (PdC p) :: H))))) ?_
           rintro _ _ ⟨a4, c4, ws, rfl, e, hws, hwo⟩; obtain rfl := e.symm
           obtain ⟨w, rfl⟩ : ∃ w, ws = [w] := by
             have := mg_len ws; rw [hws, hal] at this
             exact List.length_eq_one_iff.1 this.symm
           have hwl := hwo w (by simp)
           have hwd : w.data.length = p.n := by
             have h9 := hws.trans hal
             have h8 : mgP w = mgP p := by simpa [mg] using h9
             have h7 : w.data = p.data := congrArg Prod.snd h8
             rw [h7]; exact hpl.symm
           refine RL.p T ?_
           refine RL.p T ?_
           refine RL.wk (.row a4 1 c4 35 2 (List.flatMap PdC [w]) :: .row w.a w.n w.c 5 1 (List.map (Value.int .u8) w.data) :: (.var b 55 [.int .i64 ((2048 : Nat) : Int), .int .i64 ((5 : Nat) : Int), .slice la1 1 lc1, .int .i64 us1, .int .i64 ((age1 : Nat) : Int)] :: .row la1 1 lc1 35 2 (List.flatMap PdC [y]) :: (D1 ++ (.var b1_0 32 (PdC p) :: H)))) ?_
           refine RL.nil _ _ _ _ ?_
           refine hK17 _ _ _ ?_
           refine SW.block ?_
           refine SW.loopM (fun frB mm fr ds HH => ∃ (k : Nat) (ys : List Int), mm = 1 - k ∧ (k ≤ 1 ∧ ys.length = w.n) ∧ FrIs [10, 11, 53, 54, 55, 56, 57, 58, 59, 60, 61, 62, 63, 64, 65, 66, 67, 68, 69, 70, 71] frB fr [(53, .int .i64 k)] ∧ ds = [] ∧ HH = (.row a4 1 c4 35 2 (List.flatMap PdC [w]) :: .row w.a w.n w.c 5 1 (List.map (Value.int .u8) ys) :: (.var b 55 [.int .i64 ((2048 : Nat) : Int), .int .i64 ((5 : Nat) : Int), .slice la1 1 lc1, .int .i64 us1, .int .i64 ((age1 : Nat) : Int)] :: .row la1 1 lc1 35 2 (List.flatMap PdC [y]) :: (D1 ++ (.var b1_0 32 (PdC p) :: H))))) (n := 1 - 0) ?_ ?_
           ·exact ⟨0, w.data, rfl, ⟨Nat.zero_le _, hwl.symm⟩, (.consI rfl (by first | omega | rfl) (.nil (by repeat first | with_reducible exact Mx.refl | with_reducible exact Mx.mix | refine Mx.put rfl ?_ | refine Mx.upd rfl ?_ | refine Mx.updl rfl ?_ | refine Mx.fin rfl ?_ | refine Mx.inner rfl ?_ | refine Mx.none ?_ | exact Mx.refl | exact Mx.mix))), rfl, (by rfl)⟩
           ·rintro mm fr ds HH ⟨k, ys, rfl, ⟨hk, hyl⟩, hFr, rfl, eHH⟩
            obtain rfl := eHH.symm
            obtain ⟨frU, rfl⟩ := hFr.eq
            clear hFr
            refine SW.seq_k fun K18 hK18 => ?_
            refine SW.region _ _ _ _ ?_
            refine RL.p T ?_
            refine RL.nil _ _ _ _ ?_
            refine hK18 _ _ _ ?_
            refine SW.seq_k fun K19 hK19 => ?_
            refine SW.cs (fun hc3 => ?_) (fun hc3 => ?_)
            ·skip
             first
              | (exfalso; first | omega | contradiction | (clear hK19 K19; clear hK18 K18; clear hK17 K17; clear hK16 K16; clear hK13 K13; clear hK12 K12; clear hK11 K11; clear hK10 K10; clear hK9 K9; clear hK8 K8; clear hK6 K6; clear hK5 K5; clear hK4 K4; clear hK2 K2; clear hK1 K1; clear hK0 K0; simp at *; done))
              | (
               refine SW.skip ?_
               refine hK19 _ _ _ ?_
               refine SW.seq_k fun K20 hK20 => ?_
               refine SW.block ?_
               refine SW.seq_k fun K21 hK21 => ?_
               obtain rfl : k = 0 := by omega
               refine SW.region _ _ _ _ ?_
               refine RL.ix T ?_
               refine RL.leN T ?_ (hR := fun hs => Rd.rowh hs (by repeat first | exact At.head _ _ | apply At.tail | apply At.app)) (hq := (rfl : _ = some w)) (hvs := (by exact (rfl : _ = [_, _])))
               refine RL.s ?_
               refine NV.alloc T rfl rfl rfl (by exact (rfl : _ = [_, _])) ?_
               intro b10_2
               refine RL.s ?_
               refine NV.sN T rfl rfl rfl (by exact (rfl : _ = [_, _])) (by exact (rfl : _ = [_, _])) ?_
               refine RL.nil _ _ _ _ ?_
               refine hK21 _ _ _ ?_
               refine SW.seq_k fun K22 hK22 => ?_
               refine SW.region _ _ _ _ ?_
               refine RL.p T ?_
               refine RL.lv1 T ?_
               refine RL.p T ?_
               refine RL.p T ?_
               refine RL.nil _ _ _ _ ?_
               refine hK22 _ _ _ ?_
               refine SW.block ?_
               refine SW.loopM (fun frB mm fr ds HH => ∃ (j : Nat) (ys : List Int), mm = w.n - j ∧ (j ≤ w.n ∧ ys.length = w.n) ∧ FrIs [11, 60, 61, 62, 63, 64, 65, 66, 67, 68, 69, 70] frB fr [(60, .int .i64 j)] ∧ ds = [] ∧ HH = (.var b10_2 35 (PdC w) :: .row a4 1 c4 35 2 (List.flatMap PdC [w]) :: .row w.a w.n w.c 5 1 (List.map (Value.int .u8) ys) :: (.var b 55 [.int .i64 ((2048 : Nat) : Int), .int .i64 ((5 : Nat) : Int), .slice la1 1 lc1, .int .i64 us1, .int .i64 ((age1 : Nat) : Int)] :: .row la1 1 lc1 35 2 (List.flatMap PdC [y]) :: (D1 ++ (.var b1_0 32 (PdC p) :: H))))) (n := w.n - 0) ?_ ?_
               ·exact ⟨0, ys, rfl, ⟨Nat.zero_le _, hyl⟩, (.consI rfl (by first | omega | rfl) (.nil (by repeat first | with_reducible exact Mx.refl | with_reducible exact Mx.mix | refine Mx.put rfl ?_ | refine Mx.upd rfl ?_ | refine Mx.updl rfl ?_ | refine Mx.fin rfl ?_ | refine Mx.inner rfl ?_ | refine Mx.none ?_ | exact Mx.refl | exact Mx.mix))), rfl, rfl⟩
               ·rintro mm fr ds HH ⟨j, ys, rfl, ⟨hj, hyl⟩, hFr, rfl, eHH⟩
                obtain rfl := eHH.symm
                obtain ⟨frU, rfl⟩ := hFr.eq
                clear hFr
                refine SW.seq_k fun K23 hK23 => ?_
                refine SW.region _ _ _ _ ?_
                refine RL.p T ?_
                refine RL.nil _ _ _ _ ?_
                refine hK23 _ _ _ ?_
                refine SW.seq_k fun K24 hK24 => ?_
                refine SW.cs (fun hc4 => ?_) (fun hc4 => ?_)
                ·skip
                 first
                  | (exfalso; first | omega | contradiction | (clear hK24 K24; clear hK23 K23; clear hK22 K22; clear hK21 K21; clear hK20 K20; clear hK19 K19; clear hK18 K18; clear hK17 K17; clear hK16 K16; clear hK13 K13; clear hK12 K12; clear hK11 K11; clear hK10 K10; clear hK9 K9; clear hK8 K8; clear hK6 K6; clear hK5 K5; clear hK4 K4; clear hK2 K2; clear hK1 K1; clear hK0 K0; simp at *; done))
                  | (
                   refine SW.skip ?_
                   refine hK24 _ _ _ ?_
                   refine SW.seq_k fun K25 hK25 => ?_
                   refine SW.block ?_
                   refine SW.seq_k fun K26 hK26 => ?_
                   refine SW.region _ _ _ _ ?_
                   refine RL.p T ?_
                   refine RL.p T ?_
                   refine RL.nil _ _ _ _ ?_
                   refine hK26 _ _ _ ?_
                   refine SW.region _ _ _ _ ?_
                   refine RL.p T ?_
                   refine RL.lv1 T ?_
                   refine RL.p T ?_
                   refine RL.ix T ?_
                   refine RL.le T ?_ (hv := (by first | exact slc_get (by omega) | exact map_get _ _ (by omega)))
                   first | refine RL.arK ?_ | refine RL.p T ?_
                   refine RL.ix T ?_
                   refine RL.sei T ?_
                   refine RL.nil _ _ _ _ ?_
                   refine hK25 _ _ _ ?_
                   refine SW.region _ _ _ _ ?_
                   first | refine RL.ar ?_ | refine RL.p T ?_
                   refine RL.p T ?_
                   refine RL.nil _ _ _ _ ?_
                   exact ⟨w.n - (j + 1), (by omega), j + 1, _, (by rfl), ⟨by omega, by rw [List.length_set]; exact hyl⟩, (.consI rfl (by first | omega | rfl) (.nil (by repeat first | with_reducible exact Mx.refl | with_reducible exact Mx.mix | refine Mx.put rfl ?_ | refine Mx.upd rfl ?_ | refine Mx.updl rfl ?_ | refine Mx.fin rfl ?_ | refine Mx.inner rfl ?_ | refine Mx.none ?_ | exact Mx.refl | exact Mx.mix))), rfl, rfl⟩
                   )
                ·skip
                 first
                  | (exfalso; first | omega | contradiction | (clear hK24 K24; clear hK23 K23; clear hK22 K22; clear hK21 K21; clear hK20 K20; clear hK19 K19; clear hK18 K18; clear hK17 K17; clear hK16 K16; clear hK13 K13; clear hK12 K12; clear hK11 K11; clear hK10 K10; clear hK9 K9; clear hK8 K8; clear hK6 K6; clear hK5 K5; clear hK4 K4; clear hK2 K2; clear hK1 K1; clear hK0 K0; simp at *; done))
                  | (
                   refine SW.exit ?_
                   refine hK20 _ _ _ ?_
                   refine SW.drop ?_
                   refine SW.region _ _ _ _ ?_
                   first | refine RL.ar ?_ | refine RL.p T ?_
                   refine RL.p T ?_
                   refine RL.nil _ _ _ _ ?_
                   exact ⟨1 - (0 + 1), (by omega), 0 + 1, ys, (by rfl), ⟨by omega, hyl⟩, (.consI rfl (by first | omega | rfl) (.nil (by repeat first | with_reducible exact Mx.refl | with_reducible exact Mx.mix | refine Mx.put rfl ?_ | refine Mx.upd rfl ?_ | refine Mx.updl rfl ?_ | refine Mx.fin rfl ?_ | refine Mx.inner rfl ?_ | refine Mx.none ?_ | exact Mx.refl | exact Mx.mix))), rfl, rfl⟩
                   )
               )
            ·skip
             first
              | (exfalso; first | omega | contradiction | (clear hK19 K19; clear hK18 K18; clear hK17 K17; clear hK16 K16; clear hK13 K13; clear hK12 K12; clear hK11 K11; clear hK10 K10; clear hK9 K9; clear hK8 K8; clear hK6 K6; clear hK5 K5; clear hK4 K4; clear hK2 K2; clear hK1 K1; clear hK0 K0; simp at *; done))
              | (
               refine SW.exit ?_
               refine hK16 _ _ _ ?_
               refine SW.seq_k fun K27 hK27 => ?_
               refine SW.region _ _ _ _ ?_
               refine RL.p T ?_
               refine RL.c fun10 (fun hs => SC.wk (flushV b 2048 5 age1 us1 la1 1 lc1 [y] rfl hus1 hu1 (fun z hz => (hlo1 z hz).sub SubL.by) (H := D1 ++ (.var b1_0 32 (PdC p) :: H)))) ?_
               rintro _ _ ⟨D2, oa2, on2, oc2, os2, la2, ln2, lc2, l2, age2, us2, rfl, e, hon2, hln2, hus2, hos2, hl2, hag2, hoq2, hly2⟩; obtain rfl := e.symm
               have hj : outD os2 = [joinB [mgP p]] := by rw [hos2, hal]; rfl
               have hj2 := getD_out hj
               obtain rfl : on2 = 1 := hon2.trans hj2.1
               obtain rfl : l2 = [] := mg_nil.1 hl2
               obtain rfl : ln2 = 0 := hln2
               obtain rfl : us2 = 0 := hus2
               refine RL.p T ?_
               refine RL.nil _ _ _ _ ?_
               refine hK27 _ _ _ ?_
               refine SW.seq_k fun K28 hK28 => ?_
               refine SW.seq_k fun K29 hK29 => ?_
               refine SW.region _ _ _ _ ?_
               refine RL.p T ?_
               refine RL.p T ?_
               refine RL.p T ?_
               refine RL.sp 76 (fun hs0 => ?_) (fun hs0 => ?_)
               ·skip
                first
                 | (exfalso; first | omega | contradiction | (clear hK29 K29; clear hK28 K28; clear hK27 K27; clear hK19 K19; clear hK18 K18; clear hK17 K17; clear hK16 K16; clear hK13 K13; clear hK12 K12; clear hK11 K11; clear hK10 K10; clear hK9 K9; clear hK8 K8; clear hK6 K6; clear hK5 K5; clear hK4 K4; clear hK2 K2; clear hK1 K1; clear hK0 K0; simp at *; done))
                 | (
                  refine RL.guard_no rfl rfl rfl ?_
                  refine RL.guard_no rfl rfl rfl ?_
                  refine RL.guard_no rfl rfl rfl ?_
                  refine RL.p T ?_
                  refine RL.nil _ _ _ _ ?_
                  refine hK29 _ _ _ ?_
                  refine SW.cond_t rfl ?_
                  refine SW.seq_k fun K30 hK30 => ?_
                  refine SW.region _ _ _ _ ?_
                  refine RL.p T ?_
                  refine RL.nil _ _ _ _ ?_
                  refine hK30 _ _ _ ?_
                  refine SW.ret ?_
                  refine retQ.rr (H) ?_
                  clear hK30 K30 hK29 K29 hK28 K28 hK27 K27 hK19 K19 hK18 K18 hK17 K17 hK16 K16 hK13 K13 hK12 K12 hK11 K11 hK10 K10 hK9 K9 hK8 K8 hK6 K6 hK5 K5 hK4 K4 hK2 K2 hK1 K1 hK0 K0
                  first
                    | exact ⟨rfl, rfl⟩
                    | exact ⟨boolE (decide_eq_true (by omega)), rfl⟩
                  )
               ·skip
                first
                 | (exfalso; first | omega | contradiction | (clear hK29 K29; clear hK28 K28; clear hK27 K27; clear hK19 K19; clear hK18 K18; clear hK17 K17; clear hK16 K16; clear hK13 K13; clear hK12 K12; clear hK11 K11; clear hK10 K10; clear hK9 K9; clear hK8 K8; clear hK6 K6; clear hK5 K5; clear hK4 K4; clear hK2 K2; clear hK1 K1; clear hK0 K0; simp at *; done))
                 | (
                  refine RL.p T ?_
                  refine RL.p T ?_
                  refine RL.p T ?_
                  refine RL.p T ?_
                  refine RL.nil _ _ _ _ ?_
                  refine hK29 _ _ _ ?_
                  refine SW.cs (fun hc5 => ?_) (fun hc5 => ?_)
                  ·skip
                   first
                    | (exfalso; first | omega | contradiction | (clear hK29 K29; clear hK28 K28; clear hK27 K27; clear hK19 K19; clear hK18 K18; clear hK17 K17; clear hK16 K16; clear hK13 K13; clear hK12 K12; clear hK11 K11; clear hK10 K10; clear hK9 K9; clear hK8 K8; clear hK6 K6; clear hK5 K5; clear hK4 K4; clear hK2 K2; clear hK1 K1; clear hK0 K0; simp at *; done))
                    | (
                     refine SW.seq_k fun K31 hK31 => ?_
                     refine SW.region _ _ _ _ ?_
                     refine RL.p T ?_
                     refine RL.nil _ _ _ _ ?_
                     refine hK31 _ _ _ ?_
                     refine SW.ret ?_
                     refine retQ.rr (H) ?_
                     clear hK31 K31 hK29 K29 hK28 K28 hK27 K27 hK19 K19 hK18 K18 hK17 K17 hK16 K16 hK13 K13 hK12 K12 hK11 K11 hK10 K10 hK9 K9 hK8 K8 hK6 K6 hK5 K5 hK4 K4 hK2 K2 hK1 K1 hK0 K0
                     first
                       | exact ⟨rfl, rfl⟩
                       | exact ⟨boolE (decide_eq_true (by omega)), rfl⟩
                     )
                  ·skip
                   first
                    | (exfalso; first | omega | contradiction | (clear hK29 K29; clear hK28 K28; clear hK27 K27; clear hK19 K19; clear hK18 K18; clear hK17 K17; clear hK16 K16; clear hK13 K13; clear hK12 K12; clear hK11 K11; clear hK10 K10; clear hK9 K9; clear hK8 K8; clear hK6 K6; clear hK5 K5; clear hK4 K4; clear hK2 K2; clear hK1 K1; clear hK0 K0; simp at *; done))
                    | (
                     refine SW.skip ?_
                     refine hK28 _ _ _ ?_
                     refine SW.seq_k fun K32 hK32 => ?_
                     refine SW.region _ _ _ _ ?_
                     refine RL.p T ?_
                     refine RL.ix T ?_
                     refine RL.le T ?_ (hv := (by first | exact slc_get (by omega) | exact map_get _ _ (by omega)))
                     refine RL.c fun11 (fun hs => splitT (os2.getD 0 default) (sl_mem (fun q hq => (hoq2 q hq).sub SubL.by) 0) [mgP p] hj2.2 (by simp) (fun m hm => by rw [List.mem_singleton.1 hm]; exact hmk) (by rw [usedM_one]; omega)) ?_
                     rintro _ _ ⟨D6, a7, c7, ps, rfl, e, hps, hpo⟩; obtain rfl := e.symm
                     have hpl2 : ps.length = 1 := by rw [← mg_len, hps]; rfl
                     refine RL.p T ?_
                     refine RL.p T ?_
                     refine RL.p T ?_
                     refine RL.p T ?_
                     refine RL.p T ?_
                     refine RL.nil _ _ _ _ ?_
                     refine hK32 _ _ _ ?_
                     refine SW.seq_k fun K33 hK33 => ?_
                     refine SW.draw [(88, 0), (89, 1), (90, 2), (91, 3), (92, 4), (93, 5), (94, 6), (95, 7), (96, 8), (97, 9), (98, 10), (99, 11), (100, 12), (101, 13), (102, 14), (2, 15)] [[], [0], [1, 0], [2, 1, 0], [3, 2, 1, 0], [2, 1, 0], [5, 2, 1, 0], [4, 3, 2, 1, 0, 6, 5], [2, 1, 0, 7, 4, 3, 6, 5], [8, 2, 1, 0, 7, 4, 3, 6, 5], [9, 8, 2, 1, 0, 7, 4, 3, 6, 5], [10, 9, 8, 2, 1, 0, 7, 4, 3, 6, 5], [11, 10, 9, 8, 2, 1, 0, 7, 4, 3, 6, 5], [12, 11, 10, 9, 8, 2, 1, 0, 7, 4, 3, 6, 5], [9, 8, 2, 1, 0, 7, 4, 3, 6, 5, 13, 12, 11, 10], [14, 9, 8, 2, 1, 0, 7, 4, 3, 6, 5, 13, 12, 11, 10]] mixed (by kernel_rfl) (by kernel_rfl) ?_
                     refine RD.p T ?_
                     refine RD.p T ?_
                     refine RD.p T ?_
                     refine RD.split 2 rfl (fun hs1 => ?_) (fun hs1 => ?_)
                     ·try simp only [decide_eq_true_eq, decide_eq_false_iff_not, Bool.not_eq_true', Bool.not_eq_false', Int.not_lt, Int.not_le, Int.toNat_natCast] at hs1
                      first
                       | (exfalso; first | omega | contradiction | (clear hK33 K33; clear hK32 K32; clear hK29 K29; clear hK28 K28; clear hK27 K27; clear hK19 K19; clear hK18 K18; clear hK17 K17; clear hK16 K16; clear hK13 K13; clear hK12 K12; clear hK11 K11; clear hK10 K10; clear hK9 K9; clear hK8 K8; clear hK6 K6; clear hK5 K5; clear hK4 K4; clear hK2 K2; clear hK1 K1; clear hK0 K0; simp at *; done))
                       | (
                        refine RD.p T ?_
                        refine RD.q rfl rfl (Gd.yes rfl rfl) (QV.vN T rfl rfl rfl rfl rfl (by exact (rfl : _ = [_, _]))) ?_
                        refine RD.many rfl rfl (.cons ?_ (.cons ?_ .nil))
                        ·skip
                         refine RD1.nv rfl (Gd.yes rfl rfl) ?_
                         refine NV.sat (fun hs => ?_) (fun c hc => by cases hc)
                         refine NV.call rfl rfl rfl fun15 rfl rfl (pfrom ps a7 ps.length c7 (Rd.rowh hs (by repeat first | exact At.head _ _ | apply At.tail | apply At.app)) rfl (by omega) (fun k => (pd_mem hpo k).sub SubL.by)) ?_
                         rintro _ _ ⟨a8, c8, rfl, e⟩; obtain rfl := e.symm
                         refine ⟨(Stab.cons rfl (Gd.yes rfl rfl) (QV.vN T rfl rfl rfl rfl rfl rfl) Stab.nil), ?_⟩
                         refine RD.nv rfl rfl rfl (Gd.yes rfl rfl) ?_
                         refine NV.build1 T rfl (by conv => lhs; whnf) rfl rfl (by conv => lhs; whnf) (by exact (rfl : _ = some [_, _])) ?_
                         intro b94_3
                         refine ⟨(Stab.cons rfl (Gd.yes rfl rfl) (pev_sound T rfl) Stab.nil), ?_⟩
                         refine RD.nv rfl rfl rfl (Gd.yes rfl rfl) ?_
                         refine NV.sat (fun hs => ?_) (fun c hc => by cases hc)
                         refine NV.call rfl rfl rfl fun14 rfl rfl (samePT ps a8 ps.length c8 (Rd.rowh hs (by repeat first | exact At.head _ _ | apply At.tail | apply At.app)) rfl (fun y hy => (hpo y hy).sub SubL.by) [p] _ 1 1 (Rd.rowh hs (by repeat first | exact At.head _ _ | apply At.tail | apply At.app)) rfl (fun y hy => by rw [List.mem_singleton.1 hy]; exact hp _) (by omega) hps) ?_
                         rintro _ _ ⟨rfl, e⟩; obtain rfl := e.symm
                         refine ⟨Stab.nil, ?_⟩
                         refine RD.p T ?_
                         refine RD.p T ?_
                         refine RD.split 9 rfl (fun hs2 => ?_) (fun hs2 => ?_)
                         ·try simp only [decide_eq_true_eq, decide_eq_false_iff_not, Bool.not_eq_true', Bool.not_eq_false', Int.not_lt, Int.not_le, Int.toNat_natCast] at hs2
                          first
                           | (exfalso; first | omega | contradiction | (clear hK33 K33; clear hK32 K32; clear hK29 K29; clear hK28 K28; clear hK27 K27; clear hK19 K19; clear hK18 K18; clear hK17 K17; clear hK16 K16; clear hK13 K13; clear hK12 K12; clear hK11 K11; clear hK10 K10; clear hK9 K9; clear hK8 K8; clear hK6 K6; clear hK5 K5; clear hK4 K4; clear hK2 K2; clear hK1 K1; clear hK0 K0; simp at *; done))
                           | (
                            refine RD.p T ?_
                            refine RD.nv rfl rfl rfl (Gd.yes rfl rfl) ?_
                            refine NV.call rfl rfl rfl fun10 rfl rfl (SC.wk (flushV b 2048 5 age2 0 la2 0 lc2 [] rfl rfl (by decide) (by simp) (H := H))) ?_
                            rintro _ _ ⟨D8, oa8, on8, oc8, os8, la8, ln8, lc8, l8, age8, us8, rfl, e, hon8, hln8, hus8, hos8, hl8, hag8, hoq8, hly8⟩; obtain rfl := e.symm
                            have hz8 : on8 = 0 := by rw [hon8, ← outD_len, hos8]; rfl
                            refine ⟨Stab.nil, ?_⟩
                            refine RD.p T ?_
                            refine RD.p T ?_
                            refine RD.p T ?_
                            refine RD.p T ?_
                            refine RD.k rfl rfl ?_
                            refine hK33 _ _ _ ?_
                            refine SW.ret ?_
                            refine retQ.rr (H) ?_
                            clear hK33 K33 hK32 K32 hK29 K29 hK28 K28 hK27 K27 hK19 K19 hK18 K18 hK17 K17 hK16 K16 hK13 K13 hK12 K12 hK11 K11 hK10 K10 hK9 K9 hK8 K8 hK6 K6 hK5 K5 hK4 K4 hK2 K2 hK1 K1 hK0 K0
                            first
                              | exact ⟨rfl, rfl⟩
                              | exact ⟨boolE (decide_eq_true (by omega)), rfl⟩
                            )
                         ·try simp only [decide_eq_true_eq, decide_eq_false_iff_not, Bool.not_eq_true', Bool.not_eq_false', Int.not_lt, Int.not_le, Int.toNat_natCast] at hs2
                          first
                           | (exfalso; first | omega | contradiction | (clear hK33 K33; clear hK32 K32; clear hK29 K29; clear hK28 K28; clear hK27 K27; clear hK19 K19; clear hK18 K18; clear hK17 K17; clear hK16 K16; clear hK13 K13; clear hK12 K12; clear hK11 K11; clear hK10 K10; clear hK9 K9; clear hK8 K8; clear hK6 K6; clear hK5 K5; clear hK4 K4; clear hK2 K2; clear hK1 K1; clear hK0 K0; simp at *; done))
                           | (
                            refine RD.skip rfl rfl rfl rfl ?_
                            refine RD.skipN rfl rfl rfl rfl rfl Stab.nil ?_
                            refine RD.skip rfl rfl rfl rfl ?_
                            refine RD.skip rfl rfl rfl rfl ?_
                            refine RD.p T ?_
                            refine RD.p T ?_
                            refine RD.k rfl rfl ?_
                            refine hK33 _ _ _ ?_
                            refine SW.ret ?_
                            refine retQ.rr (H) ?_
                            clear hK33 K33 hK32 K32 hK29 K29 hK28 K28 hK27 K27 hK19 K19 hK18 K18 hK17 K17 hK16 K16 hK13 K13 hK12 K12 hK11 K11 hK10 K10 hK9 K9 hK8 K8 hK6 K6 hK5 K5 hK4 K4 hK2 K2 hK1 K1 hK0 K0
                            first
                              | exact ⟨rfl, rfl⟩
                              | exact ⟨boolE (decide_eq_true (by omega)), rfl⟩
                            )
                        ·skip
                         refine RD1.nv rfl (Gd.yes rfl rfl) ?_
                         refine NV.build1 T rfl (by conv => lhs; whnf) rfl rfl (by conv => lhs; whnf) (by exact (rfl : _ = some [_, _])) ?_
                         intro b94_3
                         refine ⟨(Stab.cons rfl (Gd.yes rfl rfl) (pev_sound T rfl) Stab.nil), ?_⟩
                         refine RD.nv rfl rfl rfl (Gd.yes rfl rfl) ?_
                         refine NV.sat (fun hs => ?_) (fun c hc => by cases hc)
                         refine NV.call rfl rfl rfl fun15 rfl rfl (pfrom ps a7 ps.length c7 (Rd.rowh hs (by repeat first | exact At.head _ _ | apply At.tail | apply At.app)) rfl (by omega) (fun k => (pd_mem hpo k).sub SubL.by)) ?_
                         rintro _ _ ⟨a8, c8, rfl, e⟩; obtain rfl := e.symm
                         refine ⟨(Stab.cons rfl (Gd.yes rfl rfl) (QV.vN T rfl rfl rfl rfl rfl rfl) Stab.nil), ?_⟩
                         refine RD.nv rfl rfl rfl (Gd.yes rfl rfl) ?_
                         refine NV.sat (fun hs => ?_) (fun c hc => by cases hc)
                         refine NV.call rfl rfl rfl fun14 rfl rfl (samePT ps a8 ps.length c8 (Rd.rowh hs (by repeat first | exact At.head _ _ | apply At.tail | apply At.app)) rfl (fun y hy => (hpo y hy).sub SubL.by) [p] _ 1 1 (Rd.rowh hs (by repeat first | exact At.head _ _ | apply At.tail | apply At.app)) rfl (fun y hy => by rw [List.mem_singleton.1 hy]; exact hp _) (by omega) hps) ?_
                         rintro _ _ ⟨rfl, e⟩; obtain rfl := e.symm
                         refine ⟨Stab.nil, ?_⟩
                         refine RD.p T ?_
                         refine RD.p T ?_
                         refine RD.split 9 rfl (fun hs2 => ?_) (fun hs2 => ?_)
                         ·try simp only [decide_eq_true_eq, decide_eq_false_iff_not, Bool.not_eq_true', Bool.not_eq_false', Int.not_lt, Int.not_le, Int.toNat_natCast] at hs2
                          first
                           | (exfalso; first | omega | contradiction | (clear hK33 K33; clear hK32 K32; clear hK29 K29; clear hK28 K28; clear hK27 K27; clear hK19 K19; clear hK18 K18; clear hK17 K17; clear hK16 K16; clear hK13 K13; clear hK12 K12; clear hK11 K11; clear hK10 K10; clear hK9 K9; clear hK8 K8; clear hK6 K6; clear hK5 K5; clear hK4 K4; clear hK2 K2; clear hK1 K1; clear hK0 K0; simp at *; done))
                           | (
                            refine RD.p T ?_
                            refine RD.nv rfl rfl rfl (Gd.yes rfl rfl) ?_
                            refine NV.call rfl rfl rfl fun10 rfl rfl (SC.wk (flushV b 2048 5 age2 0 la2 0 lc2 [] rfl rfl (by decide) (by simp) (H := H))) ?_
                            rintro _ _ ⟨D8, oa8, on8, oc8, os8, la8, ln8, lc8, l8, age8, us8, rfl, e, hon8, hln8, hus8, hos8, hl8, hag8, hoq8, hly8⟩; obtain rfl := e.symm
                            have hz8 : on8 = 0 := by rw [hon8, ← outD_len, hos8]; rfl
                            refine ⟨Stab.nil, ?_⟩
                            refine RD.p T ?_
                            refine RD.p T ?_
                            refine RD.p T ?_
                            refine RD.p T ?_
                            refine RD.k rfl rfl ?_
                            refine hK33 _ _ _ ?_
                            refine SW.ret ?_
                            refine retQ.rr (H) ?_
                            clear hK33 K33 hK32 K32 hK29 K29 hK28 K28 hK27 K27 hK19 K19 hK18 K18 hK17 K17 hK16 K16 hK13 K13 hK12 K12 hK11 K11 hK10 K10 hK9 K9 hK8 K8 hK6 K6 hK5 K5 hK4 K4 hK2 K2 hK1 K1 hK0 K0
                            first
                              | exact ⟨rfl, rfl⟩
                              | exact ⟨boolE (decide_eq_true (by omega)), rfl⟩
                            )
                         ·try simp only [decide_eq_true_eq, decide_eq_false_iff_not, Bool.not_eq_true', Bool.not_eq_false', Int.not_lt, Int.not_le, Int.toNat_natCast] at hs2
                          first
                           | (exfalso; first | omega | contradiction | (clear hK33 K33; clear hK32 K32; clear hK29 K29; clear hK28 K28; clear hK27 K27; clear hK19 K19; clear hK18 K18; clear hK17 K17; clear hK16 K16; clear hK13 K13; clear hK12 K12; clear hK11 K11; clear hK10 K10; clear hK9 K9; clear hK8 K8; clear hK6 K6; clear hK5 K5; clear hK4 K4; clear hK2 K2; clear hK1 K1; clear hK0 K0; simp at *; done))
                           | (
                            refine RD.skip rfl rfl rfl rfl ?_
                            refine RD.skipN rfl rfl rfl rfl rfl Stab.nil ?_
                            refine RD.skip rfl rfl rfl rfl ?_
                            refine RD.skip rfl rfl rfl rfl ?_
                            refine RD.p T ?_
                            refine RD.p T ?_
                            refine RD.k rfl rfl ?_
                            refine hK33 _ _ _ ?_
                            refine SW.ret ?_
                            refine retQ.rr (H) ?_
                            clear hK33 K33 hK32 K32 hK29 K29 hK28 K28 hK27 K27 hK19 K19 hK18 K18 hK17 K17 hK16 K16 hK13 K13 hK12 K12 hK11 K11 hK10 K10 hK9 K9 hK8 K8 hK6 K6 hK5 K5 hK4 K4 hK2 K2 hK1 K1 hK0 K0
                            first
                              | exact ⟨rfl, rfl⟩
                              | exact ⟨boolE (decide_eq_true (by omega)), rfl⟩
                            )
                        )
                     ·try simp only [decide_eq_true_eq, decide_eq_false_iff_not, Bool.not_eq_true', Bool.not_eq_false', Int.not_lt, Int.not_le, Int.toNat_natCast] at hs1
                      first
                       | (exfalso; first | omega | contradiction | (clear hK33 K33; clear hK32 K32; clear hK29 K29; clear hK28 K28; clear hK27 K27; clear hK19 K19; clear hK18 K18; clear hK17 K17; clear hK16 K16; clear hK13 K13; clear hK12 K12; clear hK11 K11; clear hK10 K10; clear hK9 K9; clear hK8 K8; clear hK6 K6; clear hK5 K5; clear hK4 K4; clear hK2 K2; clear hK1 K1; clear hK0 K0; simp at *; done))
                       | (
                        refine RD.skip rfl rfl rfl rfl ?_
                        refine RD.skip rfl rfl rfl rfl ?_
                        refine RD.many rfl rfl (.cons ?_ (.cons ?_ .nil))
                        ·skip
                         refine RD1.skip rfl rfl rfl (Stab.skip rfl rfl rfl rfl Stab.nil) ?_
                         refine RD.skipN rfl rfl rfl rfl rfl (Stab.skip rfl rfl rfl rfl Stab.nil) ?_
                         refine RD.skipN rfl rfl rfl rfl rfl Stab.nil ?_
                         refine RD.p T ?_
                         refine RD.p T ?_
                         refine RD.skip rfl rfl rfl rfl ?_
                         refine RD.skipN rfl rfl rfl rfl rfl Stab.nil ?_
                         refine RD.skip rfl rfl rfl rfl ?_
                         refine RD.skip rfl rfl rfl rfl ?_
                         refine RD.p T ?_
                         refine RD.p T ?_
                         refine RD.k rfl rfl ?_
                         refine hK33 _ _ _ ?_
                         refine SW.ret ?_
                         refine retQ.rr (H) ?_
                         clear hK33 K33 hK32 K32 hK29 K29 hK28 K28 hK27 K27 hK19 K19 hK18 K18 hK17 K17 hK16 K16 hK13 K13 hK12 K12 hK11 K11 hK10 K10 hK9 K9 hK8 K8 hK6 K6 hK5 K5 hK4 K4 hK2 K2 hK1 K1 hK0 K0
                         first
                           | exact ⟨rfl, rfl⟩
                           | exact ⟨boolE (decide_eq_true (by omega)), rfl⟩
                        ·skip
                         refine RD1.skip rfl rfl rfl (Stab.skip rfl rfl rfl rfl Stab.nil) ?_
                         refine RD.skipN rfl rfl rfl rfl rfl (Stab.skip rfl rfl rfl rfl Stab.nil) ?_
                         refine RD.skipN rfl rfl rfl rfl rfl Stab.nil ?_
                         refine RD.p T ?_
                         refine RD.p T ?_
                         refine RD.skip rfl rfl rfl rfl ?_
                         refine RD.skipN rfl rfl rfl rfl rfl Stab.nil ?_
                         refine RD.skip rfl rfl rfl rfl ?_
                         refine RD.skip rfl rfl rfl rfl ?_
                         refine RD.p T ?_
                         refine RD.p T ?_
                         refine RD.k rfl rfl ?_
                         refine hK33 _ _ _ ?_
                         refine SW.ret ?_
                         refine retQ.rr (H) ?_
                         clear hK33 K33 hK32 K32 hK29 K29 hK28 K28 hK27 K27 hK19 K19 hK18 K18 hK17 K17 hK16 K16 hK13 K13 hK12 K12 hK11 K11 hK10 K10 hK9 K9 hK8 K8 hK6 K6 hK5 K5 hK4 K4 hK2 K2 hK1 K1 hK0 K0
                         first
                           | exact ⟨rfl, rfl⟩
                           | exact ⟨boolE (decide_eq_true (by omega)), rfl⟩
                        )
                     )
                  )
               )
           )
       )
    )
end Go.Proofs.YtlgdfoniijmlbaaDoor.M
