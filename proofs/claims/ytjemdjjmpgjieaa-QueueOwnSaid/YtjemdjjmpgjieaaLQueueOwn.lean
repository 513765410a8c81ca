import Derived.Test.YtjemdjjmpgjieaaProg
import Derived.Test.YtjemdjjmpgjieaaFK14
import Derived.Test.YtjemdjjmpgjieaaS28
import Derived.Test.YtjemdjjmpgjieaaS37
import Derived.Test.YtjemdjjmpgjieaaP14b
set_option linter.unusedVariables false
set_option linter.unusedSimpArgs false
namespace Go.Proofs.Ytjemdjjmpgjieaa.M
open Go Go.Sep Go.Proofs
set_option maxRecDepth 10000
set_option maxHeartbeats 2000000
def rowI (i : It) : Chunk := .row i.fs.a i.fs.f.data.length i.fs.c 5 1 (i.fs.f.data.map (.int .u8))
def incN : Nat → List Int → List Int
  | 0, d => d
  | k + 1, d => (incN k d).map inc
theorem incN_len : ∀ (k : Nat) (d : List Int), (incN k d).length = d.length
  | 0, _ => rfl
  | k + 1, d => by rw [incN, List.length_map, incN_len k d]
theorem upL_one (e : En) : upL ([] ++ [e]) 0 = [e] := by unfold upL; rfl
theorem one_get {α : Type} {x : α} {k : Nat} (h : k < 1) : [x][k]? = some x := by
  obtain rfl : k = 0 := by omega
  rfl
theorem inc_all {l : List Int} {k : Nat} (h : k = l.length) : (l.take k).map inc ++ l.drop k = l.map inc := by subst h; simp
theorem qallX {w0 : World} {H : List Chunk} (bq : Nat) (room last : Int) (a : Option Addr) (n c : Nat) (M : List En) (hn : n = M.length) (hm : n ≤ 100) (hok : ∀ q ∈ M, FsOk w0 H q.fs) : SC Try.prog w0 26 #[.pointer (some ⟨bq, 0, none⟩)] (.var bq 73 [.int .i64 room, .int .i64 last, .slice a n c] :: .row a n c 80 13 (List.flatMap EnC (M)) :: H) (fun v H' => ∃ (oa : Option Addr) (oc : Nat) (out : List It) (M' : List En), v = .slice oa n oc ∧ out.length = n ∧ M'.Perm M ∧ out.map itP = M'.map enP ∧ (∀ i ∈ out, i.fs.n = i.fs.f.data.length) ∧ H' = (.var bq 73 [.int .i64 room, .int .i64 last, .slice a n c] :: .row a n c 80 13 (List.flatMap EnC (M)) :: .row oa n oc 37 12 (List.flatMap ItC (out)) :: ((out.map rowI).reverse ++ H))) := by
 refine SC.enter Try.func26 rfl (Nat.le_of_ble_eq_true rfl) ?_
 refine SW.seq_k fun K0 hK0 => ?_
 refine SW.region _ _ _ _ ?_
 refine RL.p T ?_
 refine RL.nil _ _ _ _ ?_
 refine hK0 _ _ _ ?_
 refine SW.seq_k fun K1 hK1 => ?_
 refine SW.seq_k fun K2 hK2 => ?_
 refine SW.region _ _ _ _ ?_
 refine RL.p T ?_
 refine RL.p T ?_
 refine RL.nil _ _ _ _ ?_
 refine hK2 _ _ _ ?_
 refine SW.cs (fun hc0 => ?_) (fun hc0 => ?_)
 ·skip
  first
   | (exfalso; first | omega | contradiction | (clear hK2 K2; clear hK1 K1; clear hK0 K0; simp at *; done))
   | (
    refine SW.seq_k fun K3 hK3 => ?_
    refine SW.region _ _ _ _ ?_
    refine RL.p T ?_
    refine RL.nil _ _ _ _ ?_
    refine hK3 _ _ _ ?_
    refine SW.ret ?_
    obtain rfl : n = k := by omega
    rw [List.take_of_length_le (by omega)] at hop
    subst hG
    refine retQ.wk ((.var bq 73 [.int .i64 room, .int .i64 last, .slice a n c] :: .row a n c 80 13 (List.flatMap EnC (M)) :: .row oa n oc 37 12 (List.flatMap ItC (out)) :: ((out.map rowI).reverse ++ H))) ?_
    refine retQ.rr _ ?_ (hH := fun w hw => hw)
    clear hK3 K3 hK2 K2 hK1 K1 hK0 K0
    exact ⟨_, _, _, _, rfl, hol, hpm, hop, hog, rfl⟩
    )
 ·skip
  first
   | (exfalso; first | omega | contradiction | (clear hK2 K2; clear hK1 K1; clear hK0 K0; simp at *; done))
   | (
    refine SW.skip ?_
    refine hK1 _ _ _ ?_
    refine SW.seq_k fun K4 hK4 => ?_
    refine SW.region _ _ _ _ ?_
    refine RL.nilrow 37 12 ?_
    refine RL.p T ?_
    refine RL.nil _ _ _ _ ?_
    refine hK4 _ _ _ ?_
    refine SW.seq_k fun K5 hK5 => ?_
    refine SW.seq_k fun K6 hK6 => ?_
    refine SW.region _ _ _ _ ?_
    refine RL.p T ?_
    refine RL.p T ?_
    refine RL.p T ?_
    first | refine RL.lv1 T ?_ | refine RL.le T ?_ (hR := fun hs => (Rd.rowh hs (by repeat first | exact At.head _ _ | apply At.tail | apply At.app))) (hv := (gE_get (by omega)))
    refine RL.c fun44 (fun hs => values a n c) ?_
    rintro _ _ ⟨b, rfl, e⟩; obtain rfl := e.symm
    refine RL.c fun43 (fun hs => SC.wk (sortedF b a n c M hn hm (Rd.rowh (satT (H0 := .var bq 73 [.int .i64 room, .int .i64 last, .slice a n c] :: .row a n c 80 13 (List.flatMap EnC (M)) :: H) hs) (At.tail (At.head _ _))) (H := .var bq 73 [.int .i64 room, .int .i64 last, .slice a n c] :: .row a n c 80 13 (List.flatMap EnC (M)) :: H))) ?_
    rintro _ _ ⟨ra, rc, M', rfl, hpm, hst, e⟩; obtain rfl := e.symm
    have hml : M'.length = n := hpm.length_eq.trans hn.symm
    have hok2 : ∀ q ∈ M', FsOk w0 H q.fs := fun q hq => hok q (hpm.mem_iff.1 hq)
    refine RL.p T ?_
    refine RL.p T ?_
    refine RL.nilrow 37 12 ?_
    refine RL.wk (.row none 0 0 37 12 (List.flatMap ItC ([])) :: ([] ++ (.row ra n rc 80 13 (List.flatMap EnC (M')) :: .var bq 73 [.int .i64 room, .int .i64 last, .slice a n c] :: .row a n c 80 13 (List.flatMap EnC (M)) :: H))) ?_
    refine RL.nil _ _ _ _ ?_
    refine hK6 _ _ _ ?_
    refine SW.block ?_
    refine SW.loopM (fun frB mm fr ds HH => ∃ (k : Nat) (oa : Option Addr) (oc : Nat) (out : List It) (G : List Chunk), mm = n - k ∧ (k ≤ n ∧ (out.length = k ∧ out.map itP = (M'.take k).map enP ∧ (∀ i ∈ out, i.fs.n = i.fs.f.data.length) ∧ G = (out.map rowI).reverse)) ∧ FrIs [3, 5, 15, 16, 17, 18, 19, 20, 21, 22, 23, 24] frB fr [(15, .int .i64 k), (3, .slice oa k oc)] ∧ ds = [] ∧ HH = (.row oa k oc 37 12 (List.flatMap ItC (out)) :: (G ++ (.row ra n rc 80 13 (List.flatMap EnC (M')) :: .var bq 73 [.int .i64 room, .int .i64 last, .slice a n c] :: .row a n c 80 13 (List.flatMap EnC (M)) :: H)))) (n := n - 0) ?_ ?_
    ·exact ⟨0, none, 0, [], [], rfl, ⟨Nat.zero_le _, ⟨rfl, rfl, (fun i h => by cases h), rfl⟩⟩, (.cons rfl (.cons rfl (.nil (by repeat first | with_reducible exact Mx.refl | with_reducible exact Mx.mix | refine Mx.put rfl ?_ | refine Mx.upd rfl ?_ | refine Mx.updl rfl ?_ | refine Mx.fin rfl ?_ | refine Mx.inner rfl ?_ | refine Mx.none ?_ | exact Mx.refl | exact Mx.mix)))), rfl, rfl⟩
    ·rintro mm fr ds HH ⟨k, oa, oc, out, G, rfl, ⟨hk, ⟨hol, hop, hog, hG⟩⟩, hFr, rfl, eHH⟩
     obtain rfl := eHH.symm
     obtain ⟨frU, rfl⟩ := hFr.eq
     clear hFr
     refine SW.seq_k fun K7 hK7 => ?_
     skip
     refine SW.region _ _ _ _ ?_
     refine RL.p T ?_
     refine RL.nil _ _ _ _ ?_
     refine hK7 _ _ _ ?_
     refine SW.seq_k fun K8 hK8 => ?_
     refine SW.cs (fun hc1 => ?_) (fun hc1 => ?_)
     ·skip
      first
       | (exfalso; first | omega | contradiction | (clear hK8 K8; clear hK7 K7; clear hK6 K6; clear hK5 K5; clear hK4 K4; clear hK2 K2; clear hK1 K1; clear hK0 K0; simp at *; done))
       | (
        refine SW.skip ?_
        refine hK8 _ _ _ ?_
        refine SW.seq_k fun K9 hK9 => ?_
        refine SW.block ?_
        refine SW.seq_k fun K10 hK10 => ?_
        refine SW.region _ _ _ _ ?_
        refine RL.ix T ?_ (hR := fun hs => (Rd.rowh hs (by repeat first | exact At.head _ _ | apply At.tail | apply At.app)))
        refine RL.leN T ?_ (hR := fun hs => (Rd.rowh hs (by repeat first | exact At.head _ _ | apply At.tail | apply At.app))) (hvs := (by exact (rfl : _ = [_, _, _, _, _, _, _, _, _, _, _, _, _])))
        refine RL.s ?_
        refine NV.alloc T rfl rfl rfl (by exact (rfl : _ = [_, _, _, _, _, _, _, _, _, _, _, _, _])) ?_
        intro b5_0
        refine RL.s ?_
        refine NV.sN T rfl rfl rfl (by exact (rfl : _ = [_, _, _, _, _, _, _, _, _, _, _, _, _])) (by exact (rfl : _ = [_, _, _, _, _, _, _, _, _, _, _, _, _])) ?_
        refine RL.nil _ _ _ _ ?_
        refine hK10 _ _ _ ?_
        refine SW.region _ _ _ _ ?_
        refine RL.p T ?_
        refine RL.q (QV.vN T rfl rfl rfl rfl rfl (by exact (rfl : _ = [_, _, _, _, _, _, _, _, _, _, _, _, _]))) ?_
        refine RL.c fun40 (fun hs => own (gE M' k) ((hok2 _ (gE_in (by omega))).sub SubL.by)) ?_
        rintro _ _ ⟨a1, c1, rfl, e⟩; obtain rfl := e.symm
        refine RL.bs T rfl rfl rfl (by exact (rfl : _ = some [_, _, _, _, _, _, _, _, _, _, _, _])) (fun b22_1 => ?_)
        refine RL.apS T ([(⟨(gE M' k).no, (⟨(gE M' k).fs.f, a1, (gE M' k).fs.f.data.length, c1⟩ : Fs)⟩ : It)]) (fun a0_ c0_ => ?_)
        refine RL.p T ?_
        refine RL.nil _ _ _ _ ?_
        refine hK9 _ _ _ ?_
        refine SW.region _ _ _ _ ?_
        first | refine RL.ar ?_ | refine RL.p T ?_
        refine RL.p T ?_
        refine RL.wk (.row a0_ (k + 1) c0_ 37 12 (List.flatMap ItC (out ++ [(⟨(gE M' k).no, (⟨(gE M' k).fs.f, a1, (gE M' k).fs.f.data.length, c1⟩ : Fs)⟩ : It)])) :: ((.row a1 (gE M' k).fs.f.data.length c1 5 1 ((gE M' k).fs.f.data.map (.int .u8)) :: G) ++ (.row ra n rc 80 13 (List.flatMap EnC (M')) :: .var bq 73 [.int .i64 room, .int .i64 last, .slice a n c] :: .row a n c 80 13 (List.flatMap EnC (M)) :: H))) ?_
        refine RL.nil _ _ _ _ ?_
        exact ⟨n - (k + 1), (by omega), k + 1, a0_, c0_, out ++ [(⟨(gE M' k).no, (⟨(gE M' k).fs.f, a1, (gE M' k).fs.f.data.length, c1⟩ : Fs)⟩ : It)], .row a1 (gE M' k).fs.f.data.length c1 5 1 ((gE M' k).fs.f.data.map (.int .u8)) :: G, (by rfl), ⟨by omega, ⟨by simp [hol], by rw [take_en (n := n) (by omega) hml.symm, List.map_append, List.map_append, hop]; rfl, (fun i hi => (List.mem_append.1 hi).elim (hog i) (fun m => by rw [List.mem_singleton.1 m])), by rw [hG, List.map_append, List.reverse_append]; rfl⟩⟩, (.cons rfl (.cons rfl (.nil (by repeat first | with_reducible exact Mx.refl | with_reducible exact Mx.mix | refine Mx.put rfl ?_ | refine Mx.upd rfl ?_ | refine Mx.updl rfl ?_ | refine Mx.fin rfl ?_ | refine Mx.inner rfl ?_ | refine Mx.none ?_ | exact Mx.refl | exact Mx.mix)))), rfl, rfl⟩
        )
     ·skip
      first
       | (exfalso; first | omega | contradiction | (clear hK8 K8; clear hK7 K7; clear hK6 K6; clear hK5 K5; clear hK4 K4; clear hK2 K2; clear hK1 K1; clear hK0 K0; simp at *; done))
       | (
        refine SW.exit ?_
        refine hK5 _ _ _ ?_
        refine SW.seq_k fun K11 hK11 => ?_
        refine SW.region _ _ _ _ ?_
        refine RL.p T ?_
        refine RL.p T ?_
        refine RL.nil _ _ _ _ ?_
        refine hK11 _ _ _ ?_
        refine SW.ret ?_
        obtain rfl : n = k := by omega
        rw [List.take_of_length_le (by omega)] at hop
        subst hG
        refine retQ.wk ((.var bq 73 [.int .i64 room, .int .i64 last, .slice a n c] :: .row a n c 80 13 (List.flatMap EnC (M)) :: .row oa n oc 37 12 (List.flatMap ItC (out)) :: ((out.map rowI).reverse ++ H))) ?_
        refine retQ.rr _ ?_ (hH := fun w hw => hw)
        clear hK11 K11 hK8 K8 hK7 K7 hK6 K6 hK5 K5 hK4 K4 hK2 K2 hK1 K1 hK0 K0
        exact ⟨_, _, _, _, rfl, hol, hpm, hop, hog, rfl⟩
        )
    )
theorem qall1 {w0 : World} {H : List Chunk} (bq : Nat) (room last : Int) (a : Option Addr) (c : Nat) (e : En) (hok : FsOk w0 H e.fs) : SC Try.prog w0 26 #[.pointer (some ⟨bq, 0, none⟩)] ((.var bq 73 [.int .i64 room, .int .i64 last, .slice a 1 c] :: .row a 1 c 80 13 (List.flatMap EnC ([e])) :: H)) (fun v H' => ∃ oa oc p s, v = .slice oa 1 oc ∧ H' = (.var bq 73 [.int .i64 room, .int .i64 last, .slice a 1 c] :: .row a 1 c 80 13 (List.flatMap EnC ([e])) :: .row oa 1 oc 37 12 (ItC ⟨e.no, ⟨e.fs.f, p, e.fs.f.data.length, s⟩⟩) :: .row p e.fs.f.data.length s 5 1 (e.fs.f.data.map (.int .u8)) :: H)) := by
  refine (qallX bq room last a 1 c [e] rfl (by omega) (fun q hq => by rw [List.mem_singleton.1 hq]; exact hok)).mono ?_
  rintro v H' ⟨oa, oc, out, M', rfl, hol, hpm, hop, hog, rfl⟩
  obtain rfl := List.perm_singleton.1 hpm
  obtain ⟨i, rfl⟩ := List.length_eq_one_iff.1 hol
  obtain ⟨no, ⟨f, p, m, s⟩⟩ := i
  have e1 : no = e.no ∧ f = e.fs.f := by simpa [itP, enP] using hop
  have e2 : m = f.data.length := hog _ (List.mem_singleton.2 rfl)
  obtain ⟨rfl, rfl⟩ := e1
  subst e2
  exact ⟨oa, oc, p, s, rfl, rfl⟩
theorem head1 {w0 : World} {H : List Chunk} (bq : Nat) (room last : Int) (a : Option Addr) (c : Nat) (no : Int) (f : Frm) (p : Option Addr) (s : Nat) (key : Int) (hok : FsOk w0 H (⟨f, p, f.data.length, s⟩ : Fs)) : SC Try.prog w0 21 #[.pointer (some ⟨bq, 0, none⟩)] ((.var bq 73 [.int .i64 room, .int .i64 last, .slice a 1 c] :: .row a 1 c 80 13 (List.flatMap EnC ([(⟨no, ⟨f, p, f.data.length, s⟩, key⟩ : En)])) :: H)) (fun v H' => ∃ a1 c1, v = .tuple #[ItA no (⟨f, a1, f.data.length, c1⟩ : Fs), .int .i64 0] ∧ H' = (.row a1 f.data.length c1 5 1 (f.data.map (.int .u8)) :: (.var bq 73 [.int .i64 room, .int .i64 last, .slice a 1 c] :: .row a 1 c 80 13 (List.flatMap EnC ([(⟨no, ⟨f, p, f.data.length, s⟩, key⟩ : En)])) :: H))) :=
  (head_ok bq room last a 1 c [(⟨no, ⟨f, p, f.data.length, s⟩, key⟩ : En)] rfl (by omega) (by omega) hok).mono (fun v H' h => h)
theorem take1 {w0 : World} {H : List Chunk} (bq : Nat) (room last : Int) (a : Option Addr) (c : Nat) (no : Int) (f : Frm) (p : Option Addr) (s : Nat) (key : Int) (hok : FsOk w0 H (⟨f, p, f.data.length, s⟩ : Fs)) : SC Try.prog w0 14 #[.pointer (some ⟨bq, 0, none⟩)] ((.var bq 73 [.int .i64 room, .int .i64 last, .slice a 1 c] :: .row a 1 c 80 13 (List.flatMap EnC ([(⟨no, ⟨f, p, f.data.length, s⟩, key⟩ : En)])) :: H)) (fun v H' => ∃ a1 c1, v = .tuple #[ItA no (⟨f, a1, f.data.length, c1⟩ : Fs), .int .i64 0] ∧ H' = (.var bq 73 [.int .i64 room, .int .i64 last, .slice a 0 c] :: .row a 0 c 80 13 (List.flatMap EnC ([])) :: .row a1 f.data.length c1 5 1 (f.data.map (.int .u8)) :: H)) :=
  (take_ok bq room last a 1 c [(⟨no, ⟨f, p, f.data.length, s⟩, key⟩ : En)] rfl (by omega) (by omega) hok).mono (fun v H' h => h)
theorem queueOwn {w0 : World} {H : List Chunk} (x : Fs) (hx : ∀ H, FsOk w0 H x) : SC Try.prog w0 6 #[FsA x] H (fun v H' => v = .bool true ∧ H' = H) := by
 refine SC.enter Try.func6 rfl (Nat.le_of_ble_eq_true rfl) ?_
 refine SW.seq_k fun K0 hK0 => ?_
 have hx0 := hx []
 have hxl := hx0.len
 refine SW.region _ _ _ _ ?_
 refine RL.s ?_
 refine NV.box rfl (by exact (rfl : _ = [_, _, _, _, _, _, _, _, _, _, _])) ?_
 intro b1_0
 refine RL.p T ?_
 refine RL.nil _ _ _ _ ?_
 refine hK0 _ _ _ ?_
 refine SW.seq_k fun K1 hK1 => ?_
 refine SW.seq_k fun K2 hK2 => ?_
 refine SW.region _ _ _ _ ?_
 refine RL.c fun9 (fun hs => alive) ?_
 rintro _ _ ⟨rfl, e⟩; obtain rfl := e.symm
 refine RL.p T ?_
 refine RL.nil _ _ _ _ ?_
 refine hK2 _ _ _ ?_
 refine SW.cs (fun hc0 => ?_) (fun hc0 => ?_)
 ·skip
  first
   | (exfalso; first | omega | contradiction | (clear hK2 K2; clear hK1 K1; clear hK0 K0; simp at *; done))
   | (
    refine SW.seq_k fun K3 hK3 => ?_
    refine SW.region _ _ _ _ ?_
    refine RL.p T ?_
    refine RL.nil _ _ _ _ ?_
    refine hK3 _ _ _ ?_
    refine SW.ret ?_
    refine retQ.wk (H) ?_
    refine retQ.rr _ ?_ (hH := fun w hw => hw)
    clear hK3 K3 hK2 K2 hK1 K1 hK0 K0
    first
      | exact ⟨rfl, rfl⟩
      | (refine ⟨boolE ?_, rfl⟩; simp; done)
    )
 ·skip
  first
   | (exfalso; first | omega | contradiction | (clear hK2 K2; clear hK1 K1; clear hK0 K0; simp at *; done))
   | (
    refine SW.skip ?_
    refine hK1 _ _ _ ?_
    refine SW.seq_k fun K4 hK4 => ?_
    refine SW.seq_k fun K5 hK5 => ?_
    refine SW.region _ _ _ _ ?_
    refine RL.p T ?_
    refine RL.lv1 T ?_
    refine RL.p T ?_
    refine RL.p T ?_
    refine RL.p T ?_
    refine RL.sp 23 (fun hs0 => ?_) (fun hs0 => ?_)
    ·skip
     first
      | (exfalso; first | omega | contradiction | (clear hK5 K5; clear hK4 K4; clear hK2 K2; clear hK1 K1; clear hK0 K0; simp at *; done))
      | (
       refine RL.guard_no rfl rfl rfl ?_
       refine RL.guard_no rfl rfl rfl ?_
       refine RL.guard_no rfl rfl rfl ?_
       refine RL.p T ?_
       refine RL.nil _ _ _ _ ?_
       refine hK5 _ _ _ ?_
       refine SW.cond_t rfl ?_
       refine SW.seq_k fun K6 hK6 => ?_
       refine SW.region _ _ _ _ ?_
       refine RL.p T ?_
       refine RL.nil _ _ _ _ ?_
       refine hK6 _ _ _ ?_
       refine SW.ret ?_
       refine retQ.wk (H) ?_
       refine retQ.rr _ ?_ (hH := fun w hw => hw)
       clear hK6 K6 hK5 K5 hK4 K4 hK2 K2 hK1 K1 hK0 K0
       first
         | exact ⟨rfl, rfl⟩
         | (refine ⟨boolE ?_, rfl⟩; simp; done)
       )
    ·skip
     first
      | (exfalso; first | omega | contradiction | (clear hK5 K5; clear hK4 K4; clear hK2 K2; clear hK1 K1; clear hK0 K0; simp at *; done))
      | (
       refine RL.q (QV.vN T rfl rfl rfl rfl rfl (by exact (rfl : _ = [_, _, _, _, _, _, _, _, _, _, _]))) ?_
       refine RL.c fun12 (fun hs => fcheck x.f x.a x.n x.c (hx _).rd hx0.len hx0.max hx0.ok) ?_
       rintro _ _ ⟨rfl, e⟩; obtain rfl := e.symm
       refine RL.p T ?_
       refine RL.p T ?_
       refine RL.nil _ _ _ _ ?_
       refine hK5 _ _ _ ?_
       refine SW.cs (fun hc1 => ?_) (fun hc1 => ?_)
       ·skip
        first
         | (exfalso; first | omega | contradiction | (clear hK5 K5; clear hK4 K4; clear hK2 K2; clear hK1 K1; clear hK0 K0; simp at *; done))
         | (
          refine SW.seq_k fun K7 hK7 => ?_
          refine SW.region _ _ _ _ ?_
          refine RL.p T ?_
          refine RL.nil _ _ _ _ ?_
          refine hK7 _ _ _ ?_
          refine SW.ret ?_
          refine retQ.wk (H) ?_
          refine retQ.rr _ ?_ (hH := fun w hw => hw)
          clear hK7 K7 hK5 K5 hK4 K4 hK2 K2 hK1 K1 hK0 K0
          first
            | exact ⟨rfl, rfl⟩
            | (refine ⟨boolE ?_, rfl⟩; simp; done)
          )
       ·skip
        first
         | (exfalso; first | omega | contradiction | (clear hK5 K5; clear hK4 K4; clear hK2 K2; clear hK1 K1; clear hK0 K0; simp at *; done))
         | (
          refine SW.skip ?_
          refine hK4 _ _ _ ?_
          refine SW.seq_k fun K8 hK8 => ?_
          have hc0 : chkF x.f = 0 := by omega
          refine SW.region _ _ _ _ ?_
          refine RL.c fun10 (fun hs => qnew 2 (by omega)) ?_
          rintro _ _ ⟨bq, rfl, e⟩; obtain rfl := e.symm
          refine RL.p T ?_
          refine RL.p T ?_
          refine RL.p T ?_
          refine RL.p T ?_
          refine RL.p T ?_
          refine RL.nil _ _ _ _ ?_
          refine hK8 _ _ _ ?_
          refine SW.seq_k fun K9 hK9 => ?_
          refine SW.nilrow 80 13 ?_
          refine SW.wk (.var bq 73 [.int .i64 2, .int .i64 0, .slice none 0 0] :: .row none 0 0 80 13 (List.flatMap EnC ([])) :: .var b1_0 31 (FsC x) :: H) ?_
          refine SW.region _ _ _ _ ?_
          refine RL.q (QV.vN T rfl rfl rfl rfl rfl (by exact (rfl : _ = [_, _, _, _, _, _, _, _, _, _, _]))) ?_
          refine RL.c fun28 (fun hs => fcopy x.f x.a x.n x.c (hx _).rd hx0.len hx0.max hx0.ok) ?_
          rintro _ _ ⟨a0, c0, rfl, e⟩; obtain rfl := e.symm
          refine RL.sat (fun hs => ?_)
          have hx8 : FsOk w0 [.row a0 x.f.data.length c0 5 1 ((x.f.data).map (.int .u8))] (⟨x.f, a0, x.f.data.length, c0⟩ : Fs) := ⟨rfl, (by rw [← hx0.len]; exact hx0.max), hx0.ok, Rd.rowh (satT (H0 := [.row a0 x.f.data.length c0 5 1 ((x.f.data).map (.int .u8))]) hs) (At.head _ _)⟩
          clear hs
          refine RL.s ?_
          refine NV.alloc T rfl rfl rfl (by exact (rfl : _ = [_, _, _, _, _, _, _, _, _, _, _])) ?_
          intro b5_1
          refine RL.s ?_
          refine NV.sN T rfl rfl rfl (by exact (rfl : _ = [_, _, _, _, _, _, _, _, _, _, _])) (by exact (rfl : _ = [_, _, _, _, _, _, _, _, _, _, _])) ?_
          refine RL.nil _ _ _ _ ?_
          refine hK9 _ _ _ ?_
          refine SW.seq_k fun K10 hK10 => ?_
          refine SW.region _ _ _ _ ?_
          refine RL.p T ?_
          refine RL.q (QV.vN T rfl rfl rfl rfl rfl (by exact (rfl : _ = [_, _, _, _, _, _, _, _, _, _, _]))) ?_
          refine RL.c fun11 (fun hs => SC.wk (put_ok bq 2 0 none 0 0 [] rfl (by omega) (⟨x.f, a0, x.f.data.length, c0⟩ : Fs) (hx8.sub SubL.by) hc0 (by omega) (by omega) (by omega) (H := .var b5_1 31 (FsC ⟨x.f, a0, x.f.data.length, c0⟩) :: .row a0 x.f.data.length c0 5 1 ((x.f.data).map (.int .u8)) :: .var b1_0 31 (FsC x) :: H))) ?_
          rintro _ _ ⟨a1, c1, a2, c2, rfl, e⟩; obtain rfl := e.symm
          refine RL.p T ?_
          refine RL.p T ?_
          refine RL.p T ?_
          refine RL.p T ?_
          refine RL.p T ?_
          rw [upL_one]
          refine RL.wk (.var bq 73 [.int .i64 2, .int .i64 1, .slice a2 1 c2] :: .row a2 1 c2 80 13 (List.flatMap EnC ([(⟨1, ⟨x.f, a1, x.f.data.length, c1⟩, keyF x.f⟩ : En)])) :: .row a1 x.f.data.length c1 5 1 ((x.f.data).map (.int .u8)) :: .var b5_1 31 (FsC ⟨x.f, a0, x.f.data.length, c0⟩) :: .row a0 x.f.data.length c0 5 1 ((x.f.data).map (.int .u8)) :: .var b1_0 31 (FsC x) :: H) ?_
          refine RL.nil _ _ _ _ ?_
          refine hK10 _ _ _ ?_
          refine SW.seq_k fun K11 hK11 => ?_
          refine SW.seq_k fun K12 hK12 => ?_
          refine SW.region _ _ _ _ ?_
          refine RL.p T ?_
          refine RL.lv1 T ?_
          refine RL.p T ?_
          refine RL.p T ?_
          refine RL.nil _ _ _ _ ?_
          refine hK12 _ _ _ ?_
          refine SW.block ?_
          refine SW.loopM (fun frB mm fr ds HH => ∃ (k : Nat) , mm = x.f.data.length - k ∧ (k ≤ x.f.data.length ∧ (True)) ∧ FrIs [8, 43, 44, 45, 46, 47, 48, 49, 50, 51, 52, 53] frB fr [(43, .int .i64 k)] ∧ ds = [] ∧ HH = (.var bq 73 [.int .i64 2, .int .i64 1, .slice a2 1 c2] :: .row a2 1 c2 80 13 (List.flatMap EnC ([(⟨1, ⟨x.f, a1, x.f.data.length, c1⟩, keyF x.f⟩ : En)])) :: .row a1 x.f.data.length c1 5 1 ((x.f.data).map (.int .u8)) :: .var b5_1 31 (FsC ⟨x.f, a0, x.f.data.length, c0⟩) :: .row a0 x.f.data.length c0 5 1 (((x.f.data.take k).map inc ++ x.f.data.drop k).map (.int .u8)) :: .var b1_0 31 (FsC x) :: H)) (n := x.f.data.length - 0) ?_ ?_
          ·exact ⟨0, rfl, ⟨Nat.zero_le _, trivial⟩, (.cons rfl (.nil (by repeat first | with_reducible exact Mx.refl | with_reducible exact Mx.mix | refine Mx.put rfl ?_ | refine Mx.upd rfl ?_ | refine Mx.updl rfl ?_ | refine Mx.fin rfl ?_ | refine Mx.inner rfl ?_ | refine Mx.none ?_ | exact Mx.refl | exact Mx.mix))), rfl, (by simp; try rfl)⟩
          ·rintro mm fr ds HH ⟨k, rfl, ⟨hk, _⟩, hFr, rfl, eHH⟩
           obtain rfl := eHH.symm
           obtain ⟨frU, rfl⟩ := hFr.eq
           clear hFr
           have hkl : ((x.f.data.take k).map inc ++ x.f.data.drop k).length = x.f.data.length := by simp [List.length_take]; omega
           refine SW.seq_k fun K13 hK13 => ?_
           refine SW.region _ _ _ _ ?_
           refine RL.p T ?_
           refine RL.nil _ _ _ _ ?_
           refine hK13 _ _ _ ?_
           refine SW.seq_k fun K14 hK14 => ?_
           refine SW.cs (fun hc2 => ?_) (fun hc2 => ?_)
           ·skip
            first
             | (exfalso; first | omega | contradiction | (clear hK14 K14; clear hK13 K13; clear hK12 K12; clear hK11 K11; clear hK10 K10; clear hK9 K9; clear hK8 K8; clear hK5 K5; clear hK4 K4; clear hK2 K2; clear hK1 K1; clear hK0 K0; simp at *; done))
             | (
              refine SW.skip ?_
              refine hK14 _ _ _ ?_
              refine SW.seq_k fun K15 hK15 => ?_
              refine SW.block ?_
              refine SW.seq_k fun K16 hK16 => ?_
              refine SW.region _ _ _ _ ?_
              refine RL.p T ?_
              refine RL.p T ?_
              refine RL.nil _ _ _ _ ?_
              refine hK16 _ _ _ ?_
              refine SW.region _ _ _ _ ?_
              refine RL.p T ?_
              refine RL.lv1 T ?_
              refine RL.p T ?_
              refine RL.ix T ?_ (hR := fun hs => (Rd.rowh hs (by repeat first | exact At.head _ _ | apply At.tail | apply At.app)))
              refine RL.le T ?_ (hR := fun hs => (Rd.rowh hs (by repeat first | exact At.head _ _ | apply At.tail | apply At.app))) (hv := (map_as (by omega) (inc_get (by omega))))
              first | refine RL.arK ?_ | refine RL.p T ?_
              refine RL.ix T ?_ (hR := fun hs => (Rd.rowh hs (by repeat first | exact At.head _ _ | apply At.tail | apply At.app)))
              refine RL.sei T ?_ (hl := (by omega))
              refine RL.nil _ _ _ _ ?_
              refine hK15 _ _ _ ?_
              refine SW.region _ _ _ _ ?_
              first | refine RL.ar ?_ | refine RL.p T ?_
              refine RL.p T ?_
              refine RL.nil _ _ _ _ ?_
              exact ⟨x.f.data.length - (k + 1), (by omega), k + 1, (by rfl), ⟨by omega, trivial⟩, (.cons rfl (.nil (by repeat first | with_reducible exact Mx.refl | with_reducible exact Mx.mix | refine Mx.put rfl ?_ | refine Mx.upd rfl ?_ | refine Mx.updl rfl ?_ | refine Mx.fin rfl ?_ | refine Mx.inner rfl ?_ | refine Mx.none ?_ | exact Mx.refl | exact Mx.mix))), rfl, (by rw [← inc_step (by omega)]; rfl)⟩
              )
           ·skip
            first
             | (exfalso; first | omega | contradiction | (clear hK14 K14; clear hK13 K13; clear hK12 K12; clear hK11 K11; clear hK10 K10; clear hK9 K9; clear hK8 K8; clear hK5 K5; clear hK4 K4; clear hK2 K2; clear hK1 K1; clear hK0 K0; simp at *; done))
             | (
              refine SW.exit ?_
              refine hK11 _ _ _ ?_
              refine SW.seq_k fun K17 hK17 => ?_
              refine SW.seq_k fun K18 hK18 => ?_
              refine SW.wk (.var bq 73 [.int .i64 2, .int .i64 1, .slice a2 1 c2] :: .row a2 1 c2 80 13 (List.flatMap EnC ([(⟨1, ⟨x.f, a1, x.f.data.length, c1⟩, keyF x.f⟩ : En)])) :: .row a1 x.f.data.length c1 5 1 ((x.f.data).map (.int .u8)) :: .var b1_0 31 (FsC x) :: H) ?_
              refine SW.sat (fun hs => ?_)
              have hx1 : FsOk w0 [.row a1 x.f.data.length c1 5 1 ((x.f.data).map (.int .u8))] (⟨x.f, a1, x.f.data.length, c1⟩ : Fs) := ⟨rfl, (by rw [← hx0.len]; exact hx0.max), hx0.ok, Rd.rowh (satT (H0 := [.row a1 x.f.data.length c1 5 1 ((x.f.data).map (.int .u8))]) hs) (At.head _ _)⟩
              clear hs
              refine SW.region _ _ _ _ ?_
              refine RL.p T ?_
              refine RL.c fun26 (fun hs => SC.wk (qall1 bq 2 1 a2 c2 (⟨1, ⟨x.f, a1, x.f.data.length, c1⟩, keyF x.f⟩ : En) (hx1.sub SubL.by) (H := .row a1 x.f.data.length c1 5 1 ((x.f.data).map (.int .u8)) :: .var b1_0 31 (FsC x) :: H))) ?_
              rintro _ _ ⟨oa, oc, p, s, rfl, e⟩; obtain rfl := e.symm
              refine RL.p T ?_
              refine RL.p T ?_
              refine RL.wk (.row oa 1 oc 37 12 (ItC (⟨1, ⟨x.f, p, x.f.data.length, s⟩⟩ : It)) :: .row p x.f.data.length s 5 1 ((x.f.data).map (.int .u8)) :: (.var bq 73 [.int .i64 2, .int .i64 1, .slice a2 1 c2] :: .row a2 1 c2 80 13 (List.flatMap EnC ([(⟨1, ⟨x.f, a1, x.f.data.length, c1⟩, keyF x.f⟩ : En)])) :: .row a1 x.f.data.length c1 5 1 ((x.f.data).map (.int .u8)) :: .var b1_0 31 (FsC x) :: H)) ?_
              refine RL.nil _ _ _ _ ?_
              refine hK18 _ _ _ ?_
              refine SW.block ?_
              refine SW.loopM (fun frB mm fr ds HH => ∃ (k : Nat) , mm = 1 - k ∧ (k ≤ 1 ∧ (True)) ∧ FrIs [10, 11, 57, 58, 59, 60, 61, 62, 63, 64, 65, 66, 67, 68, 69, 70, 71, 72, 73, 74, 75, 76, 77] frB fr [(57, .int .i64 k)] ∧ ds = [] ∧ HH = (.row oa 1 oc 37 12 (ItC (⟨1, ⟨x.f, p, x.f.data.length, s⟩⟩ : It)) :: .row p x.f.data.length s 5 1 ((incN k x.f.data).map (.int .u8)) :: (.var bq 73 [.int .i64 2, .int .i64 1, .slice a2 1 c2] :: .row a2 1 c2 80 13 (List.flatMap EnC ([(⟨1, ⟨x.f, a1, x.f.data.length, c1⟩, keyF x.f⟩ : En)])) :: .row a1 x.f.data.length c1 5 1 ((x.f.data).map (.int .u8)) :: .var b1_0 31 (FsC x) :: H))) (n := 1 - 0) ?_ ?_
              ·exact ⟨0, rfl, ⟨Nat.zero_le _, trivial⟩, (.cons rfl (.nil (by repeat first | with_reducible exact Mx.refl | with_reducible exact Mx.mix | refine Mx.put rfl ?_ | refine Mx.upd rfl ?_ | refine Mx.updl rfl ?_ | refine Mx.fin rfl ?_ | refine Mx.inner rfl ?_ | refine Mx.none ?_ | exact Mx.refl | exact Mx.mix))), rfl, rfl⟩
              ·rintro mm fr ds HH ⟨k, rfl, ⟨hk, _⟩, hFr, rfl, eHH⟩
               obtain rfl := eHH.symm
               obtain ⟨frU, rfl⟩ := hFr.eq
               clear hFr
               have hkn := incN_len k x.f.data
               refine SW.seq_k fun K19 hK19 => ?_
               refine SW.region _ _ _ _ ?_
               refine RL.p T ?_
               refine RL.nil _ _ _ _ ?_
               refine hK19 _ _ _ ?_
               refine SW.seq_k fun K20 hK20 => ?_
               refine SW.cs (fun hc3 => ?_) (fun hc3 => ?_)
               ·skip
                first
                 | (exfalso; first | omega | contradiction | (clear hK20 K20; clear hK19 K19; clear hK18 K18; clear hK17 K17; clear hK14 K14; clear hK13 K13; clear hK12 K12; clear hK11 K11; clear hK10 K10; clear hK9 K9; clear hK8 K8; clear hK5 K5; clear hK4 K4; clear hK2 K2; clear hK1 K1; clear hK0 K0; simp at *; done))
                 | (
                  refine SW.skip ?_
                  refine hK20 _ _ _ ?_
                  refine SW.seq_k fun K21 hK21 => ?_
                  refine SW.block ?_
                  refine SW.seq_k fun K22 hK22 => ?_
                  refine SW.region _ _ _ _ ?_
                  refine RL.ix T ?_ (hR := fun hs => (Rd.rowh hs (by repeat first | exact At.head _ _ | apply At.tail | apply At.app)))
                  refine RL.leN (enc := ItC) (rs := [(⟨1, ⟨x.f, p, x.f.data.length, s⟩⟩ : It)]) T ?_ (hR := fun hs => (Rd.rowh hs (by repeat first | exact At.head _ _ | apply At.tail | apply At.app))) (hq := one_get (by omega)) (hvs := rfl)
                  refine RL.s ?_
                  refine NV.alloc T rfl rfl rfl (by exact (rfl : _ = [_, _, _, _, _, _, _, _, _, _, _, _])) ?_
                  intro b10_2
                  refine RL.s ?_
                  refine NV.sN T rfl rfl rfl (by exact (rfl : _ = [_, _, _, _, _, _, _, _, _, _, _, _])) (by exact (rfl : _ = [_, _, _, _, _, _, _, _, _, _, _, _])) ?_
                  skip
                  refine RL.nil _ _ _ _ ?_
                  refine hK22 _ _ _ ?_
                  refine SW.seq_k fun K23 hK23 => ?_
                  refine SW.region _ _ _ _ ?_
                  refine RL.p T ?_
                  refine RL.p T ?_
                  refine RL.lv1 T ?_
                  refine RL.p T ?_
                  refine RL.p T ?_
                  refine RL.nil _ _ _ _ ?_
                  refine hK23 _ _ _ ?_
                  refine SW.block ?_
                  refine SW.loopM (fun frB mm fr ds HH => ∃ (i : Nat) , mm = x.f.data.length - i ∧ (i ≤ x.f.data.length ∧ (True)) ∧ FrIs [11, 65, 66, 67, 68, 69, 70, 71, 72, 73, 74, 75, 76] frB fr [(65, .int .i64 i)] ∧ ds = [] ∧ HH = (.var b10_2 37 (ItC ⟨1, ⟨x.f, p, x.f.data.length, s⟩⟩) :: (.row oa 1 oc 37 12 (ItC (⟨1, ⟨x.f, p, x.f.data.length, s⟩⟩ : It)) :: .row p x.f.data.length s 5 1 ((((incN k x.f.data).take i).map inc ++ (incN k x.f.data).drop i).map (.int .u8)) :: (.var bq 73 [.int .i64 2, .int .i64 1, .slice a2 1 c2] :: .row a2 1 c2 80 13 (List.flatMap EnC ([(⟨1, ⟨x.f, a1, x.f.data.length, c1⟩, keyF x.f⟩ : En)])) :: .row a1 x.f.data.length c1 5 1 ((x.f.data).map (.int .u8)) :: .var b1_0 31 (FsC x) :: H)))) (n := x.f.data.length - 0) ?_ ?_
                  ·exact ⟨0, rfl, ⟨Nat.zero_le _, trivial⟩, (.cons rfl (.nil (by repeat first | with_reducible exact Mx.refl | with_reducible exact Mx.mix | refine Mx.put rfl ?_ | refine Mx.upd rfl ?_ | refine Mx.updl rfl ?_ | refine Mx.fin rfl ?_ | refine Mx.inner rfl ?_ | refine Mx.none ?_ | exact Mx.refl | exact Mx.mix))), rfl, (by simp; try rfl)⟩
                  ·rintro mm fr ds HH ⟨i, rfl, ⟨hi, _⟩, hFr, rfl, eHH⟩
                   obtain rfl := eHH.symm
                   obtain ⟨frU, rfl⟩ := hFr.eq
                   clear hFr
                   have hil : (((incN k x.f.data).take i).map inc ++ (incN k x.f.data).drop i).length = x.f.data.length := by simp [List.length_take]; omega
                   refine SW.seq_k fun K24 hK24 => ?_
                   refine SW.region _ _ _ _ ?_
                   refine RL.p T ?_
                   refine RL.nil _ _ _ _ ?_
                   refine hK24 _ _ _ ?_
                   refine SW.seq_k fun K25 hK25 => ?_
                   refine SW.cs (fun hc4 => ?_) (fun hc4 => ?_)
                   ·skip
                    first
                     | (exfalso; first | omega | contradiction | (clear hK25 K25; clear hK24 K24; clear hK23 K23; clear hK22 K22; clear hK21 K21; clear hK20 K20; clear hK19 K19; clear hK18 K18; clear hK17 K17; clear hK14 K14; clear hK13 K13; clear hK12 K12; clear hK11 K11; clear hK10 K10; clear hK9 K9; clear hK8 K8; clear hK5 K5; clear hK4 K4; clear hK2 K2; clear hK1 K1; clear hK0 K0; simp at *; done))
                     | (
                      refine SW.skip ?_
                      refine hK25 _ _ _ ?_
                      refine SW.seq_k fun K26 hK26 => ?_
                      refine SW.block ?_
                      refine SW.seq_k fun K27 hK27 => ?_
                      refine SW.region _ _ _ _ ?_
                      refine RL.p T ?_
                      refine RL.p T ?_
                      refine RL.nil _ _ _ _ ?_
                      refine hK27 _ _ _ ?_
                      refine SW.region _ _ _ _ ?_
                      refine RL.p T ?_
                      refine RL.p T ?_
                      refine RL.lv1 T ?_
                      refine RL.p T ?_
                      refine RL.ix T ?_ (hR := fun hs => (Rd.rowh hs (by repeat first | exact At.head _ _ | apply At.tail | apply At.app)))
                      refine RL.le T ?_ (hR := fun hs => (Rd.rowh hs (by repeat first | exact At.head _ _ | apply At.tail | apply At.app))) (hv := (map_as (by omega) (inc_get (by omega))))
                      first | refine RL.arK ?_ | refine RL.p T ?_
                      refine RL.ix T ?_ (hR := fun hs => (Rd.rowh hs (by repeat first | exact At.head _ _ | apply At.tail | apply At.app)))
                      refine RL.sei T ?_ (hl := (by omega))
                      refine RL.nil _ _ _ _ ?_
                      refine hK26 _ _ _ ?_
                      refine SW.region _ _ _ _ ?_
                      first | refine RL.ar ?_ | refine RL.p T ?_
                      refine RL.p T ?_
                      refine RL.nil _ _ _ _ ?_
                      exact ⟨x.f.data.length - (i + 1), (by omega), i + 1, (by rfl), ⟨by omega, trivial⟩, (.cons rfl (.nil (by repeat first | with_reducible exact Mx.refl | with_reducible exact Mx.mix | refine Mx.put rfl ?_ | refine Mx.upd rfl ?_ | refine Mx.updl rfl ?_ | refine Mx.fin rfl ?_ | refine Mx.inner rfl ?_ | refine Mx.none ?_ | exact Mx.refl | exact Mx.mix))), rfl, (by rw [← inc_step (by omega)]; rfl)⟩
                      )
                   ·skip
                    first
                     | (exfalso; first | omega | contradiction | (clear hK25 K25; clear hK24 K24; clear hK23 K23; clear hK22 K22; clear hK21 K21; clear hK20 K20; clear hK19 K19; clear hK18 K18; clear hK17 K17; clear hK14 K14; clear hK13 K13; clear hK12 K12; clear hK11 K11; clear hK10 K10; clear hK9 K9; clear hK8 K8; clear hK5 K5; clear hK4 K4; clear hK2 K2; clear hK1 K1; clear hK0 K0; simp at *; done))
                     | (
                      refine SW.exit ?_
                      refine hK21 _ _ _ ?_
                      have hie : i = (incN k x.f.data).length := by omega
                      rw [inc_all hie]
                      refine SW.wk (.row oa 1 oc 37 12 (ItC (⟨1, ⟨x.f, p, x.f.data.length, s⟩⟩ : It)) :: .row p x.f.data.length s 5 1 ((incN (k + 1) x.f.data).map (.int .u8)) :: (.var bq 73 [.int .i64 2, .int .i64 1, .slice a2 1 c2] :: .row a2 1 c2 80 13 (List.flatMap EnC ([(⟨1, ⟨x.f, a1, x.f.data.length, c1⟩, keyF x.f⟩ : En)])) :: .row a1 x.f.data.length c1 5 1 ((x.f.data).map (.int .u8)) :: .var b1_0 31 (FsC x) :: H)) ?_
                      refine SW.region _ _ _ _ ?_
                      first | refine RL.ar ?_ | refine RL.p T ?_
                      refine RL.p T ?_
                      refine RL.nil _ _ _ _ ?_
                      exact ⟨1 - (k + 1), (by omega), k + 1, (by rfl), ⟨by omega, trivial⟩, (.cons rfl (.nil (by repeat first | with_reducible exact Mx.refl | with_reducible exact Mx.mix | refine Mx.put rfl ?_ | refine Mx.upd rfl ?_ | refine Mx.updl rfl ?_ | refine Mx.fin rfl ?_ | refine Mx.inner rfl ?_ | refine Mx.none ?_ | exact Mx.refl | exact Mx.mix))), rfl, rfl⟩
                      )
                  )
               ·skip
                first
                 | (exfalso; first | omega | contradiction | (clear hK20 K20; clear hK19 K19; clear hK18 K18; clear hK17 K17; clear hK14 K14; clear hK13 K13; clear hK12 K12; clear hK11 K11; clear hK10 K10; clear hK9 K9; clear hK8 K8; clear hK5 K5; clear hK4 K4; clear hK2 K2; clear hK1 K1; clear hK0 K0; simp at *; done))
                 | (
                  refine SW.exit ?_
                  refine hK17 _ _ _ ?_
                  refine SW.seq_k fun K28 hK28 => ?_
                  refine SW.wk (.var bq 73 [.int .i64 2, .int .i64 1, .slice a2 1 c2] :: .row a2 1 c2 80 13 (List.flatMap EnC ([(⟨1, ⟨x.f, a1, x.f.data.length, c1⟩, keyF x.f⟩ : En)])) :: .row a1 x.f.data.length c1 5 1 ((x.f.data).map (.int .u8)) :: .var b1_0 31 (FsC x) :: H) ?_
                  refine SW.region _ _ _ _ ?_
                  refine RL.p T ?_
                  refine RL.c fun21 (fun hs => SC.wk (head1 bq 2 1 a2 c2 1 x.f a1 c1 (keyF x.f) (hx1.sub SubL.by) (H := .row a1 x.f.data.length c1 5 1 ((x.f.data).map (.int .u8)) :: .var b1_0 31 (FsC x) :: H))) ?_
                  rintro _ _ ⟨a4, c4, rfl, e⟩; obtain rfl := e.symm
                  refine RL.p T ?_
                  refine RL.p T ?_
                  refine RL.p T ?_
                  refine RL.s ?_
                  refine NV.alloc T rfl rfl rfl (by exact (rfl : _ = [_, _, _, _, _, _, _, _, _, _, _, _])) ?_
                  intro b12_3
                  refine RL.s ?_
                  refine NV.sN T rfl rfl rfl (by exact (rfl : _ = [_, _, _, _, _, _, _, _, _, _, _, _])) (by exact (rfl : _ = [_, _, _, _, _, _, _, _, _, _, _, _])) ?_
                  refine RL.p T ?_
                  skip
                  refine RL.nil _ _ _ _ ?_
                  refine hK28 _ _ _ ?_
                  refine SW.seq_k fun K29 hK29 => ?_
                  refine SW.seq_k fun K30 hK30 => ?_
                  refine SW.region _ _ _ _ ?_
                  refine RL.p T ?_
                  refine RL.p T ?_
                  refine RL.lv1 T ?_
                  refine RL.p T ?_
                  refine RL.p T ?_
                  refine RL.nil _ _ _ _ ?_
                  refine hK30 _ _ _ ?_
                  refine SW.block ?_
                  refine SW.loopM (fun frB mm fr ds HH => ∃ (m : Nat) , mm = x.f.data.length - m ∧ (m ≤ x.f.data.length ∧ (True)) ∧ FrIs [14, 87, 88, 89, 90, 91, 92, 93, 94, 95, 96, 97, 98] frB fr [(87, .int .i64 m)] ∧ ds = [] ∧ HH = (.var b12_3 37 (ItC ⟨1, ⟨x.f, a4, x.f.data.length, c4⟩⟩) :: .row a4 x.f.data.length c4 5 1 (((x.f.data.take m).map inc ++ x.f.data.drop m).map (.int .u8)) :: (.var bq 73 [.int .i64 2, .int .i64 1, .slice a2 1 c2] :: .row a2 1 c2 80 13 (List.flatMap EnC ([(⟨1, ⟨x.f, a1, x.f.data.length, c1⟩, keyF x.f⟩ : En)])) :: .row a1 x.f.data.length c1 5 1 ((x.f.data).map (.int .u8)) :: .var b1_0 31 (FsC x) :: H))) (n := x.f.data.length - 0) ?_ ?_
                  ·exact ⟨0, rfl, ⟨Nat.zero_le _, trivial⟩, (.cons rfl (.nil (by repeat first | with_reducible exact Mx.refl | with_reducible exact Mx.mix | refine Mx.put rfl ?_ | refine Mx.upd rfl ?_ | refine Mx.updl rfl ?_ | refine Mx.fin rfl ?_ | refine Mx.inner rfl ?_ | refine Mx.none ?_ | exact Mx.refl | exact Mx.mix))), rfl, (by simp; try rfl)⟩
                  ·rintro mm fr ds HH ⟨m, rfl, ⟨hm, _⟩, hFr, rfl, eHH⟩
                   obtain rfl := eHH.symm
                   obtain ⟨frU, rfl⟩ := hFr.eq
                   clear hFr
                   have hml : ((x.f.data.take m).map inc ++ x.f.data.drop m).length = x.f.data.length := by simp [List.length_take]; omega
                   refine SW.seq_k fun K31 hK31 => ?_
                   refine SW.region _ _ _ _ ?_
                   refine RL.p T ?_
                   refine RL.nil _ _ _ _ ?_
                   refine hK31 _ _ _ ?_
                   refine SW.seq_k fun K32 hK32 => ?_
                   refine SW.cs (fun hc5 => ?_) (fun hc5 => ?_)
                   ·skip
                    first
                     | (exfalso; first | omega | contradiction | (clear hK32 K32; clear hK31 K31; clear hK30 K30; clear hK29 K29; clear hK28 K28; clear hK20 K20; clear hK19 K19; clear hK18 K18; clear hK17 K17; clear hK14 K14; clear hK13 K13; clear hK12 K12; clear hK11 K11; clear hK10 K10; clear hK9 K9; clear hK8 K8; clear hK5 K5; clear hK4 K4; clear hK2 K2; clear hK1 K1; clear hK0 K0; simp at *; done))
                     | (
                      refine SW.skip ?_
                      refine hK32 _ _ _ ?_
                      refine SW.seq_k fun K33 hK33 => ?_
                      refine SW.block ?_
                      refine SW.seq_k fun K34 hK34 => ?_
                      refine SW.region _ _ _ _ ?_
                      refine RL.p T ?_
                      refine RL.p T ?_
                      refine RL.nil _ _ _ _ ?_
                      refine hK34 _ _ _ ?_
                      refine SW.region _ _ _ _ ?_
                      refine RL.p T ?_
                      refine RL.p T ?_
                      refine RL.lv1 T ?_
                      refine RL.p T ?_
                      refine RL.ix T ?_ (hR := fun hs => (Rd.rowh hs (by repeat first | exact At.head _ _ | apply At.tail | apply At.app)))
                      refine RL.le T ?_ (hR := fun hs => (Rd.rowh hs (by repeat first | exact At.head _ _ | apply At.tail | apply At.app))) (hv := (map_as (by omega) (inc_get (by omega))))
                      first | refine RL.arK ?_ | refine RL.p T ?_
                      refine RL.ix T ?_ (hR := fun hs => (Rd.rowh hs (by repeat first | exact At.head _ _ | apply At.tail | apply At.app)))
                      refine RL.sei T ?_ (hl := (by omega))
                      refine RL.nil _ _ _ _ ?_
                      refine hK33 _ _ _ ?_
                      refine SW.region _ _ _ _ ?_
                      first | refine RL.ar ?_ | refine RL.p T ?_
                      refine RL.p T ?_
                      refine RL.nil _ _ _ _ ?_
                      exact ⟨x.f.data.length - (m + 1), (by omega), m + 1, (by rfl), ⟨by omega, trivial⟩, (.cons rfl (.nil (by repeat first | with_reducible exact Mx.refl | with_reducible exact Mx.mix | refine Mx.put rfl ?_ | refine Mx.upd rfl ?_ | refine Mx.updl rfl ?_ | refine Mx.fin rfl ?_ | refine Mx.inner rfl ?_ | refine Mx.none ?_ | exact Mx.refl | exact Mx.mix))), rfl, (by rw [← inc_step (by omega)]; rfl)⟩
                      )
                   ·skip
                    first
                     | (exfalso; first | omega | contradiction | (clear hK32 K32; clear hK31 K31; clear hK30 K30; clear hK29 K29; clear hK28 K28; clear hK20 K20; clear hK19 K19; clear hK18 K18; clear hK17 K17; clear hK14 K14; clear hK13 K13; clear hK12 K12; clear hK11 K11; clear hK10 K10; clear hK9 K9; clear hK8 K8; clear hK5 K5; clear hK4 K4; clear hK2 K2; clear hK1 K1; clear hK0 K0; simp at *; done))
                     | (
                      refine SW.exit ?_
                      refine hK29 _ _ _ ?_
                      refine SW.seq_k fun K35 hK35 => ?_
                      refine SW.wk (.var bq 73 [.int .i64 2, .int .i64 1, .slice a2 1 c2] :: .row a2 1 c2 80 13 (List.flatMap EnC ([(⟨1, ⟨x.f, a1, x.f.data.length, c1⟩, keyF x.f⟩ : En)])) :: .row a1 x.f.data.length c1 5 1 ((x.f.data).map (.int .u8)) :: .var b1_0 31 (FsC x) :: H) ?_
                      refine SW.region _ _ _ _ ?_
                      refine RL.p T ?_
                      refine RL.c fun14 (fun hs => SC.wk (take1 bq 2 1 a2 c2 1 x.f a1 c1 (keyF x.f) (hx1.sub SubL.by) (H := .row a1 x.f.data.length c1 5 1 ((x.f.data).map (.int .u8)) :: .var b1_0 31 (FsC x) :: H))) ?_
                      rintro _ _ ⟨a5, c5, rfl, e⟩; obtain rfl := e.symm
                      refine RL.sat (fun hs => ?_)
                      have hx5 : FsOk w0 [.row a5 x.f.data.length c5 5 1 ((x.f.data).map (.int .u8))] (⟨x.f, a5, x.f.data.length, c5⟩ : Fs) := ⟨rfl, (by rw [← hx0.len]; exact hx0.max), hx0.ok, Rd.rowh (satT (H0 := [.row a5 x.f.data.length c5 5 1 ((x.f.data).map (.int .u8))]) hs) (At.head _ _)⟩
                      clear hs
                      refine RL.p T ?_
                      refine RL.p T ?_
                      refine RL.p T ?_
                      refine RL.s ?_
                      refine NV.alloc T rfl rfl rfl (by exact (rfl : _ = [_, _, _, _, _, _, _, _, _, _, _, _])) ?_
                      intro b15_4
                      refine RL.s ?_
                      refine NV.sN T rfl rfl rfl (by exact (rfl : _ = [_, _, _, _, _, _, _, _, _, _, _, _])) (by exact (rfl : _ = [_, _, _, _, _, _, _, _, _, _, _, _])) ?_
                      refine RL.p T ?_
                      refine RL.nil _ _ _ _ ?_
                      refine hK35 _ _ _ ?_
                      refine SW.seq_k fun K36 hK36 => ?_
                      refine SW.region _ _ _ _ ?_
                      refine RL.p T ?_
                      refine RL.p T ?_
                      refine RL.p T ?_
                      refine RL.sp 106 (fun hs1 => ?_) (fun hs1 => ?_)
                      ·skip
                       first
                        | (exfalso; first | omega | contradiction | (clear hK36 K36; clear hK35 K35; clear hK32 K32; clear hK31 K31; clear hK30 K30; clear hK29 K29; clear hK28 K28; clear hK20 K20; clear hK19 K19; clear hK18 K18; clear hK17 K17; clear hK14 K14; clear hK13 K13; clear hK12 K12; clear hK11 K11; clear hK10 K10; clear hK9 K9; clear hK8 K8; clear hK5 K5; clear hK4 K4; clear hK2 K2; clear hK1 K1; clear hK0 K0; simp at *; done))
                        | (
                         refine RL.p T ?_
                         refine RL.p T ?_
                         refine RL.p T ?_
                         refine RL.p T ?_
                         refine RL.sp 110 (fun hs2 => ?_) (fun hs2 => ?_)
                         ·skip
                          first
                           | (exfalso; first | omega | contradiction | (clear hK36 K36; clear hK35 K35; clear hK32 K32; clear hK31 K31; clear hK30 K30; clear hK29 K29; clear hK28 K28; clear hK20 K20; clear hK19 K19; clear hK18 K18; clear hK17 K17; clear hK14 K14; clear hK13 K13; clear hK12 K12; clear hK11 K11; clear hK10 K10; clear hK9 K9; clear hK8 K8; clear hK5 K5; clear hK4 K4; clear hK2 K2; clear hK1 K1; clear hK0 K0; simp at *; done))
                           | (
                            refine RL.p T ?_
                            refine RL.p T ?_
                            refine RL.p T ?_
                            refine RL.p T ?_
                            refine RL.sp 114 (fun hs3 => ?_) (fun hs3 => ?_)
                            ·skip
                             first
                              | (exfalso; first | omega | contradiction | (clear hK36 K36; clear hK35 K35; clear hK32 K32; clear hK31 K31; clear hK30 K30; clear hK29 K29; clear hK28 K28; clear hK20 K20; clear hK19 K19; clear hK18 K18; clear hK17 K17; clear hK14 K14; clear hK13 K13; clear hK12 K12; clear hK11 K11; clear hK10 K10; clear hK9 K9; clear hK8 K8; clear hK5 K5; clear hK4 K4; clear hK2 K2; clear hK1 K1; clear hK0 K0; simp at *; done))
                              | (
                               refine RL.p T ?_
                               refine RL.p T ?_
                               refine RL.p T ?_
                               refine RL.p T ?_
                               refine RL.sp 118 (fun hs4 => ?_) (fun hs4 => ?_)
                               ·skip
                                first
                                 | (exfalso; first | omega | contradiction | (clear hK36 K36; clear hK35 K35; clear hK32 K32; clear hK31 K31; clear hK30 K30; clear hK29 K29; clear hK28 K28; clear hK20 K20; clear hK19 K19; clear hK18 K18; clear hK17 K17; clear hK14 K14; clear hK13 K13; clear hK12 K12; clear hK11 K11; clear hK10 K10; clear hK9 K9; clear hK8 K8; clear hK5 K5; clear hK4 K4; clear hK2 K2; clear hK1 K1; clear hK0 K0; simp at *; done))
                                 | (
                                  refine RL.p T ?_
                                  refine RL.q (QV.vN T rfl rfl rfl rfl rfl (by exact (rfl : _ = [_, _, _, _, _, _, _, _, _, _, _]))) ?_
                                  refine RL.q (QV.vN T rfl rfl rfl rfl rfl (by exact (rfl : _ = [_, _, _, _, _, _, _, _, _, _, _]))) ?_
                                  refine RL.c fun29 (fun hs => (fsame x.f a5 x.f.data.length c5 (hx5.sub SubL.by).rd hx5.len hx5.max hx5.ok x.f x.a x.n x.c (hx _).rd hx0.len hx0.max hx0.ok).mono (fun v H' h => by rw [sameF_refl] at h; exact h)) ?_
                                  rintro _ _ ⟨rfl, e⟩; obtain rfl := e.symm
                                  refine RL.p T ?_
                                  refine RL.p T ?_
                                  refine RL.nil _ _ _ _ ?_
                                  refine hK36 _ _ _ ?_
                                  refine SW.ret ?_
                                  refine retQ.wk (H) ?_
                                  refine retQ.rr _ ?_ (hH := fun w hw => hw)
                                  clear hK36 K36 hK35 K35 hK32 K32 hK31 K31 hK30 K30 hK29 K29 hK28 K28 hK20 K20 hK19 K19 hK18 K18 hK17 K17 hK14 K14 hK13 K13 hK12 K12 hK11 K11 hK10 K10 hK9 K9 hK8 K8 hK5 K5 hK4 K4 hK2 K2 hK1 K1 hK0 K0
                                  first
                                    | exact ⟨rfl, rfl⟩
                                    | (refine ⟨boolE ?_, rfl⟩; simp; done)
                                  )
                               ·skip
                                first
                                 | (exfalso; first | omega | contradiction | (clear hK36 K36; clear hK35 K35; clear hK32 K32; clear hK31 K31; clear hK30 K30; clear hK29 K29; clear hK28 K28; clear hK20 K20; clear hK19 K19; clear hK18 K18; clear hK17 K17; clear hK14 K14; clear hK13 K13; clear hK12 K12; clear hK11 K11; clear hK10 K10; clear hK9 K9; clear hK8 K8; clear hK5 K5; clear hK4 K4; clear hK2 K2; clear hK1 K1; clear hK0 K0; simp at *; done))
                                 | (
                                  refine RL.guard_no rfl rfl rfl ?_
                                  refine RL.guard_no rfl rfl rfl ?_
                                  refine RL.guard_no rfl rfl rfl ?_
                                  refine RL.guard_no rfl rfl rfl ?_
                                  refine RL.p T ?_
                                  refine RL.p T ?_
                                  refine RL.nil _ _ _ _ ?_
                                  refine hK36 _ _ _ ?_
                                  refine SW.ret ?_
                                  refine retQ.wk (H) ?_
                                  refine retQ.rr _ ?_ (hH := fun w hw => hw)
                                  clear hK36 K36 hK35 K35 hK32 K32 hK31 K31 hK30 K30 hK29 K29 hK28 K28 hK20 K20 hK19 K19 hK18 K18 hK17 K17 hK14 K14 hK13 K13 hK12 K12 hK11 K11 hK10 K10 hK9 K9 hK8 K8 hK5 K5 hK4 K4 hK2 K2 hK1 K1 hK0 K0
                                  first
                                    | exact ⟨rfl, rfl⟩
                                    | (refine ⟨boolE ?_, rfl⟩; simp; done)
                                  )
                               )
                            ·skip
                             first
                              | (exfalso; first | omega | contradiction | (clear hK36 K36; clear hK35 K35; clear hK32 K32; clear hK31 K31; clear hK30 K30; clear hK29 K29; clear hK28 K28; clear hK20 K20; clear hK19 K19; clear hK18 K18; clear hK17 K17; clear hK14 K14; clear hK13 K13; clear hK12 K12; clear hK11 K11; clear hK10 K10; clear hK9 K9; clear hK8 K8; clear hK5 K5; clear hK4 K4; clear hK2 K2; clear hK1 K1; clear hK0 K0; simp at *; done))
                              | (
                               refine RL.guard_no rfl rfl rfl ?_
                               refine RL.guard_no rfl rfl rfl ?_
                               refine RL.p T ?_
                               refine RL.p T ?_
                               refine RL.guard_no rfl rfl rfl ?_
                               refine RL.guard_no rfl rfl rfl ?_
                               refine RL.guard_no rfl rfl rfl ?_
                               refine RL.guard_no rfl rfl rfl ?_
                               refine RL.p T ?_
                               refine RL.p T ?_
                               refine RL.nil _ _ _ _ ?_
                               refine hK36 _ _ _ ?_
                               refine SW.ret ?_
                               refine retQ.wk (H) ?_
                               refine retQ.rr _ ?_ (hH := fun w hw => hw)
                               clear hK36 K36 hK35 K35 hK32 K32 hK31 K31 hK30 K30 hK29 K29 hK28 K28 hK20 K20 hK19 K19 hK18 K18 hK17 K17 hK14 K14 hK13 K13 hK12 K12 hK11 K11 hK10 K10 hK9 K9 hK8 K8 hK5 K5 hK4 K4 hK2 K2 hK1 K1 hK0 K0
                               first
                                 | exact ⟨rfl, rfl⟩
                                 | (refine ⟨boolE ?_, rfl⟩; simp; done)
                               )
                            )
                         ·skip
                          first
                           | (exfalso; first | omega | contradiction | (clear hK36 K36; clear hK35 K35; clear hK32 K32; clear hK31 K31; clear hK30 K30; clear hK29 K29; clear hK28 K28; clear hK20 K20; clear hK19 K19; clear hK18 K18; clear hK17 K17; clear hK14 K14; clear hK13 K13; clear hK12 K12; clear hK11 K11; clear hK10 K10; clear hK9 K9; clear hK8 K8; clear hK5 K5; clear hK4 K4; clear hK2 K2; clear hK1 K1; clear hK0 K0; simp at *; done))
                           | (
                            refine RL.guard_no rfl rfl rfl ?_
                            refine RL.guard_no rfl rfl rfl ?_
                            refine RL.p T ?_
                            refine RL.p T ?_
                            refine RL.guard_no rfl rfl rfl ?_
                            refine RL.guard_no rfl rfl rfl ?_
                            refine RL.p T ?_
                            refine RL.p T ?_
                            refine RL.guard_no rfl rfl rfl ?_
                            refine RL.guard_no rfl rfl rfl ?_
                            refine RL.guard_no rfl rfl rfl ?_
                            refine RL.guard_no rfl rfl rfl ?_
                            refine RL.p T ?_
                            refine RL.p T ?_
                            refine RL.nil _ _ _ _ ?_
                            refine hK36 _ _ _ ?_
                            refine SW.ret ?_
                            refine retQ.wk (H) ?_
                            refine retQ.rr _ ?_ (hH := fun w hw => hw)
                            clear hK36 K36 hK35 K35 hK32 K32 hK31 K31 hK30 K30 hK29 K29 hK28 K28 hK20 K20 hK19 K19 hK18 K18 hK17 K17 hK14 K14 hK13 K13 hK12 K12 hK11 K11 hK10 K10 hK9 K9 hK8 K8 hK5 K5 hK4 K4 hK2 K2 hK1 K1 hK0 K0
                            first
                              | exact ⟨rfl, rfl⟩
                              | (refine ⟨boolE ?_, rfl⟩; simp; done)
                            )
                         )
                      ·skip
                       first
                        | (exfalso; first | omega | contradiction | (clear hK36 K36; clear hK35 K35; clear hK32 K32; clear hK31 K31; clear hK30 K30; clear hK29 K29; clear hK28 K28; clear hK20 K20; clear hK19 K19; clear hK18 K18; clear hK17 K17; clear hK14 K14; clear hK13 K13; clear hK12 K12; clear hK11 K11; clear hK10 K10; clear hK9 K9; clear hK8 K8; clear hK5 K5; clear hK4 K4; clear hK2 K2; clear hK1 K1; clear hK0 K0; simp at *; done))
                        | (
                         refine RL.guard_no rfl rfl rfl ?_
                         refine RL.guard_no rfl rfl rfl ?_
                         refine RL.p T ?_
                         refine RL.p T ?_
                         refine RL.guard_no rfl rfl rfl ?_
                         refine RL.guard_no rfl rfl rfl ?_
                         refine RL.p T ?_
                         refine RL.p T ?_
                         refine RL.guard_no rfl rfl rfl ?_
                         refine RL.guard_no rfl rfl rfl ?_
                         refine RL.p T ?_
                         refine RL.p T ?_
                         refine RL.guard_no rfl rfl rfl ?_
                         refine RL.guard_no rfl rfl rfl ?_
                         refine RL.guard_no rfl rfl rfl ?_
                         refine RL.guard_no rfl rfl rfl ?_
                         refine RL.p T ?_
                         refine RL.p T ?_
                         refine RL.nil _ _ _ _ ?_
                         refine hK36 _ _ _ ?_
                         refine SW.ret ?_
                         refine retQ.wk (H) ?_
                         refine retQ.rr _ ?_ (hH := fun w hw => hw)
                         clear hK36 K36 hK35 K35 hK32 K32 hK31 K31 hK30 K30 hK29 K29 hK28 K28 hK20 K20 hK19 K19 hK18 K18 hK17 K17 hK14 K14 hK13 K13 hK12 K12 hK11 K11 hK10 K10 hK9 K9 hK8 K8 hK5 K5 hK4 K4 hK2 K2 hK1 K1 hK0 K0
                         first
                           | exact ⟨rfl, rfl⟩
                           | (refine ⟨boolE ?_, rfl⟩; simp; done)
                         )
                      )
                  )
              )
          )
       )
    )
theorem queueOwnI {w0 : World} {H : List Chunk} (f : Frm) (sa : Option Addr) (n c : Nat) (hR : ∀ H, Rd w0 H sa n c 1 (f.data.map (.int .u8))) (hn : n = f.data.length) (hm : n ≤ 140737488351232) (hf : FrOk f) : SC Try.prog w0 6 #[FA f sa n c] H (fun v H' => v = .bool true ∧ H' = H) :=
  queueOwn ⟨f, sa, n, c⟩ (fun H => ⟨hn, hm, hf, hR H⟩)
end Go.Proofs.Ytjemdjjmpgjieaa.M
