import Derived.Test.YtjemdjjmpgjieaaProg
import Derived.Test.YtjemdjjmpgjieaaFR14
import Derived.Test.YtjemdjjmpgjieaaP14f
import Derived.Test.YtjemdjjmpgjieaaFK14
import Derived.Test.YtjemdjjmpgjieaaS37
set_option linter.unusedVariables false
set_option linter.unusedSimpArgs false
namespace Go.Proofs.Ytjemdjjmpgjieaa.M
open Go Go.Sep Go.Proofs
set_option maxRecDepth 10000
set_option maxHeartbeats 2000000
theorem rdO {w0 : World} {H T : List Chunk} {a : Option Addr} {n c sz : Nat} {l : List Value} (h : Rd w0 T a n c sz l) (hs : SubL H T) : Rd w0 H a n c sz l := hs.rd h
theorem rdNil {W : World} {H : List Chunk} {c : Nat} : Rd W H Option.none 0 c 12 (([] : List It).flatMap ItC) := ⟨rfl, Nat.zero_le _, fun h => absurd h (by simp), fun p hp => by cases hp⟩
theorem put_same {x : Frm} {n n1 n2 : Nat} {no no2 er er2 last last1 last2 room : Int}
    (h1 : (chkF x ≠ 0 ∧ no = 0 ∧ er = 2 ∧ n1 = n ∧ last1 = last) ∨ (chkF x = 0 ∧ room ≤ n ∧ no = 0 ∧ er = 8 ∧ n1 = n ∧ last1 = last) ∨ (chkF x = 0 ∧ n < room ∧ no = last + 1 ∧ er = 0 ∧ n1 = n + 1 ∧ last1 = last + 1))
    (h2 : (chkF x ≠ 0 ∧ no2 = 0 ∧ er2 = 2 ∧ n2 = n ∧ last2 = last) ∨ (chkF x = 0 ∧ room ≤ n ∧ no2 = 0 ∧ er2 = 8 ∧ n2 = n ∧ last2 = last) ∨ (chkF x = 0 ∧ n < room ∧ no2 = last + 1 ∧ er2 = 0 ∧ n2 = n + 1 ∧ last2 = last + 1)) : no = no2 ∧ er = er2 ∧ last1 = last2 ∧ n1 = n2 := by
  generalize chkF x = q at h1 h2
  rcases h1 with ⟨a, b, c, d, e⟩ | ⟨a, b', b, c, d, e⟩ | ⟨a, b', b, c, d, e⟩ <;> rcases h2 with ⟨a2, b2, c2, d2, e2⟩ | ⟨a2, b2', b2, c2, d2, e2⟩ | ⟨a2, b2', b2, c2, d2, e2⟩ <;> first | (exfalso; omega) | (exact ⟨b.trans b2.symm, c.trans c2.symm, e.trans e2.symm, d.trans d2.symm⟩)
theorem gE_ne {L : List En} {K : Int} (h : ∀ j, j < L.length → (gE L j).no ≠ K) : ∀ e ∈ L, e.no ≠ K := fun e he => by
  obtain ⟨j, hj, rfl⟩ := List.getElem_of_mem he
  have := gE_get hj
  rw [List.getElem?_eq_getElem hj] at this
  rw [Option.some.inj this]
  exact h j hj
theorem canc {w0 : World} {G : List Chunk} {n n2 : Nat} {L L2 : List En} {K er last : Int} (hn : n = L.length) (hqi : QI w0 L last G)
    (h : (er = 9 ∧ n2 = n ∧ L2 = L ∧ ∀ j, j < n → (gE L j).no ≠ K) ∨ (er = 0 ∧ ∃ i, i < n ∧ (gE L i).no = K ∧ n2 = n - 1 ∧ L2 = (remL L i).take (n - 1))) :
    n2 = L2.length ∧ n2 ≤ n ∧ QI w0 L2 last G ∧ (∀ e ∈ L2, e.no ≠ K) ∧ L2.Perm (L.filter (fun e => decide (e.no ≠ K))) ∧ ((er = 9 ∧ n2 = n ∧ ∀ e ∈ L, e.no ≠ K) ∨ (er = 0 ∧ n2 + 1 = n ∧ ∃ e ∈ L, e.no = K)) := by
  rcases h with ⟨h1, rfl, rfl, h2⟩ | ⟨h1, i, hi, hk, rfl, rfl⟩
  · have h3 := gE_ne (by rw [← hn]; exact h2)
    refine ⟨hn, Nat.le_refl _, hqi, h3, ?_, .inl ⟨h1, rfl, h3⟩⟩
    rw [List.filter_eq_self.2 (fun e he => decide_eq_true (h3 e he))]
  · have hr := rem_rest (L := L) (i := i) (by omega)
    rw [← hn] at hr
    have hq : QI w0 ((remL L i).take (n - 1)) last G := by
      have := hqi.rem (i := i) (by omega)
      rwa [← hn] at this
    have hnd := perm_nd hr hqi.nd
    rw [List.map_cons, List.nodup_cons] at hnd
    have hne : ∀ e ∈ (remL L i).take (n - 1), e.no ≠ K := fun e he h => hnd.1 (List.mem_map.2 ⟨e, he, by rw [h, hk]⟩)
    refine ⟨by rw [List.length_take, remL_len]; omega, by omega, hq, hne, ?_, .inr ⟨h1, by omega, gE L i, gE_in (by omega), hk⟩⟩
    have h3 := (hr.filter (fun e => decide (e.no ≠ K)))
    rw [List.filter_cons, if_neg (by simp [hk]), List.filter_eq_self.2 (fun e he => decide_eq_true (hne e he))] at h3
    exact h3
theorem queueActs {w0 : World} {H : List Chunk} (room : Nat) (hr : room ≤ 64) (ls : List Qa) (sr : Option Addr) (nr cr : Nat) (hB : ∀ H, Rd w0 H sr nr cr 13 (ls.flatMap QaC)) (hnr : nr = ls.length) (hmr : nr ≤ 4398046511000) (hls : ∀ H, ∀ y ∈ ls, FsOk w0 H y.x) : SC Try.prog w0 4 #[.int .i64 (room : Nat), .slice sr nr cr] H (fun v H' => v = .bool true ∧ H' = H) := by
 refine SC.enter Try.func4 rfl (Nat.le_of_ble_eq_true rfl) ?_
 refine SW.seq_k fun K0 hK0 => ?_
 refine SW.region _ _ _ _ ?_
 refine RL.p T ?_
 refine RL.nil _ _ _ _ ?_
 refine hK0 _ _ _ ?_
 refine SW.seq_k fun K1 hK1 => ?_
 refine SW.seq_k fun K2 hK2 => ?_
 refine SW.region _ _ _ _ ?_
 refine RL.c fun9 (fun hs => alive) ?_
 rintro _ _ ⟨rfl, e⟩; obtain rfl := e.symm
 refine RL.p T ?_
 refine RL.nil _ _ _ _ ?_
 refine hK2 _ _ _ ?_
 refine SW.cs (fun hc0 => ?_) (fun hc0 => ?_)
 ·skip
  first
   | (exfalso; first | omega | contradiction | (clear hK2 K2; clear hK1 K1; clear hK0 K0; simp at *; done))
   | (
    refine SW.seq_k fun K3 hK3 => ?_
    refine SW.region _ _ _ _ ?_
    refine RL.p T ?_
    refine RL.nil _ _ _ _ ?_
    refine hK3 _ _ _ ?_
    refine SW.ret ?_
    refine retQ.wk (H) ?_
    refine retQ.rr _ ?_ (hH := fun w hw => hw)
    clear hK3 K3 hK2 K2 hK1 K1 hK0 K0
    first
      | exact ⟨rfl, rfl⟩
    )
 ·skip
  first
   | (exfalso; first | omega | contradiction | (clear hK2 K2; clear hK1 K1; clear hK0 K0; simp at *; done))
   | (
    refine SW.skip ?_
    refine hK1 _ _ _ ?_
    refine SW.seq_k fun K4 hK4 => ?_
    refine SW.seq_k fun K5 hK5 => ?_
    refine SW.region _ _ _ _ ?_
    refine RL.p T ?_
    refine RL.c fun16 (fun hs => great ls sr nr cr hB hnr hmr) ?_
    rintro _ _ ⟨gt, rfl, hgt, e⟩; obtain rfl := e.symm
    refine RL.nil _ _ _ _ ?_
    refine hK5 _ _ _ ?_
    refine SW.cs (fun hc1 => ?_) (fun hc1 => ?_)
    ·skip
     first
      | (exfalso; first | omega | contradiction | (clear hK5 K5; clear hK4 K4; clear hK2 K2; clear hK1 K1; clear hK0 K0; simp at *; done))
      | (
       refine SW.seq_k fun K6 hK6 => ?_
       refine SW.region _ _ _ _ ?_
       refine RL.p T ?_
       refine RL.nil _ _ _ _ ?_
       refine hK6 _ _ _ ?_
       refine SW.ret ?_
       refine retQ.wk (H) ?_
       refine retQ.rr _ ?_ (hH := fun w hw => hw)
       clear hK6 K6 hK5 K5 hK4 K4 hK2 K2 hK1 K1 hK0 K0
       first
         | exact ⟨rfl, rfl⟩
       )
    ·skip
     first
      | (exfalso; first | omega | contradiction | (clear hK5 K5; clear hK4 K4; clear hK2 K2; clear hK1 K1; clear hK0 K0; simp at *; done))
      | (
       refine SW.skip ?_
       refine hK4 _ _ _ ?_
       refine SW.seq_k fun K7 hK7 => ?_
       refine SW.region _ _ _ _ ?_
       refine RL.p T ?_
       refine RL.c fun10 (fun hs => qnew room hr) ?_
       rintro _ _ ⟨bq, rfl, e⟩; obtain rfl := e.symm
       refine RL.p T ?_
       refine RL.p T ?_
       refine RL.p T ?_
       refine RL.p T ?_
       refine RL.p T ?_
       refine RL.nil _ _ _ _ ?_
       refine hK7 _ _ _ ?_
       refine SW.seq_k fun K8 hK8 => ?_
       refine SW.seq_k fun K9 hK9 => ?_
       refine SW.region _ _ _ _ ?_
       refine RL.p T ?_
       refine RL.p T ?_
       refine RL.p T ?_
       refine RL.sp 33 (fun hs0 => ?_) (fun hs0 => ?_)
       ·skip
        first
         | (exfalso; first | omega | contradiction | (clear hK9 K9; clear hK8 K8; clear hK7 K7; clear hK5 K5; clear hK4 K4; clear hK2 K2; clear hK1 K1; clear hK0 K0; simp at *; done))
         | (
          refine RL.guard_no rfl rfl rfl ?_
          refine RL.guard_no rfl rfl rfl ?_
          refine RL.p T ?_
          refine RL.nil _ _ _ _ ?_
          refine hK9 _ _ _ ?_
          refine SW.cond_t rfl ?_
          refine SW.seq_k fun K10 hK10 => ?_
          refine SW.region _ _ _ _ ?_
          refine RL.p T ?_
          refine RL.p T ?_
          refine RL.p T ?_
          refine RL.sp 39 (fun hs1 => ?_) (fun hs1 => ?_)
          ·skip
           first
            | (exfalso; first | omega | contradiction | (clear hK10 K10; clear hK9 K9; clear hK8 K8; clear hK7 K7; clear hK5 K5; clear hK4 K4; clear hK2 K2; clear hK1 K1; clear hK0 K0; simp at *; done))
            | (
             refine RL.p T ?_
             refine RL.p T ?_
             refine RL.p T ?_
             refine RL.p T ?_
             refine RL.nil _ _ _ _ ?_
             refine hK10 _ _ _ ?_
             refine SW.ret ?_
             refine retQ.wk (H) ?_
             refine retQ.rr _ ?_ (hH := fun w hw => hw)
             clear hK10 K10 hK9 K9 hK8 K8 hK7 K7 hK5 K5 hK4 K4 hK2 K2 hK1 K1 hK0 K0
             first
               | exact ⟨rfl, rfl⟩
             )
          ·skip
           first
            | (exfalso; first | omega | contradiction | (clear hK10 K10; clear hK9 K9; clear hK8 K8; clear hK7 K7; clear hK5 K5; clear hK4 K4; clear hK2 K2; clear hK1 K1; clear hK0 K0; simp at *; done))
            | (
             refine RL.guard_no rfl rfl rfl ?_
             refine RL.guard_no rfl rfl rfl ?_
             refine RL.p T ?_
             refine RL.p T ?_
             refine RL.nil _ _ _ _ ?_
             refine hK10 _ _ _ ?_
             refine SW.ret ?_
             refine retQ.wk (H) ?_
             refine retQ.rr _ ?_ (hH := fun w hw => hw)
             clear hK10 K10 hK9 K9 hK8 K8 hK7 K7 hK5 K5 hK4 K4 hK2 K2 hK1 K1 hK0 K0
             first
               | exact ⟨rfl, rfl⟩
             )
          )
       ·skip
        first
         | (exfalso; first | omega | contradiction | (clear hK9 K9; clear hK8 K8; clear hK7 K7; clear hK5 K5; clear hK4 K4; clear hK2 K2; clear hK1 K1; clear hK0 K0; simp at *; done))
         | (
          refine RL.p T ?_
          refine RL.p T ?_
          refine RL.p T ?_
          refine RL.nil _ _ _ _ ?_
          refine hK9 _ _ _ ?_
          refine SW.cs (fun hc2 => ?_) (fun hc2 => ?_)
          ·skip
           first
            | (exfalso; first | omega | contradiction | (clear hK9 K9; clear hK8 K8; clear hK7 K7; clear hK5 K5; clear hK4 K4; clear hK2 K2; clear hK1 K1; clear hK0 K0; simp at *; done))
            | (
             refine SW.seq_k fun K11 hK11 => ?_
             refine SW.region _ _ _ _ ?_
             refine RL.p T ?_
             refine RL.p T ?_
             refine RL.p T ?_
             refine RL.sp 39 (fun hs2 => ?_) (fun hs2 => ?_)
             ·skip
              first
               | (exfalso; first | omega | contradiction | (clear hK11 K11; clear hK9 K9; clear hK8 K8; clear hK7 K7; clear hK5 K5; clear hK4 K4; clear hK2 K2; clear hK1 K1; clear hK0 K0; simp at *; done))
               | (
                refine RL.p T ?_
                refine RL.p T ?_
                refine RL.p T ?_
                refine RL.p T ?_
                refine RL.nil _ _ _ _ ?_
                refine hK11 _ _ _ ?_
                refine SW.ret ?_
                refine retQ.wk (H) ?_
                refine retQ.rr _ ?_ (hH := fun w hw => hw)
                clear hK11 K11 hK9 K9 hK8 K8 hK7 K7 hK5 K5 hK4 K4 hK2 K2 hK1 K1 hK0 K0
                first
                  | exact ⟨rfl, rfl⟩
                )
             ·skip
              first
               | (exfalso; first | omega | contradiction | (clear hK11 K11; clear hK9 K9; clear hK8 K8; clear hK7 K7; clear hK5 K5; clear hK4 K4; clear hK2 K2; clear hK1 K1; clear hK0 K0; simp at *; done))
               | (
                refine RL.guard_no rfl rfl rfl ?_
                refine RL.guard_no rfl rfl rfl ?_
                refine RL.p T ?_
                refine RL.p T ?_
                refine RL.nil _ _ _ _ ?_
                refine hK11 _ _ _ ?_
                refine SW.ret ?_
                refine retQ.wk (H) ?_
                refine retQ.rr _ ?_ (hH := fun w hw => hw)
                clear hK11 K11 hK9 K9 hK8 K8 hK7 K7 hK5 K5 hK4 K4 hK2 K2 hK1 K1 hK0 K0
                first
                  | exact ⟨rfl, rfl⟩
                )
             )
          ·skip
           first
            | (exfalso; first | omega | contradiction | (clear hK9 K9; clear hK8 K8; clear hK7 K7; clear hK5 K5; clear hK4 K4; clear hK2 K2; clear hK1 K1; clear hK0 K0; simp at *; done))
            | (
             refine SW.skip ?_
             refine hK8 _ _ _ ?_
             refine SW.seq_k fun K12 hK12 => ?_
             refine SW.seq_k fun K13 hK13 => ?_
             refine SW.region _ _ _ _ ?_
             refine RL.p T ?_
             refine RL.p T ?_
             refine RL.p T ?_
             refine RL.sp 45 (fun hs3 => ?_) (fun hs3 => ?_)
             ·skip
              first
               | (exfalso; first | omega | contradiction | (clear hK13 K13; clear hK12 K12; clear hK9 K9; clear hK8 K8; clear hK7 K7; clear hK5 K5; clear hK4 K4; clear hK2 K2; clear hK1 K1; clear hK0 K0; simp at *; done))
               | (
                refine RL.guard_no rfl rfl rfl ?_
                refine RL.guard_no rfl rfl rfl ?_
                refine RL.p T ?_
                refine RL.nil _ _ _ _ ?_
                refine hK13 _ _ _ ?_
                refine SW.cond_t rfl ?_
                refine SW.seq_k fun K14 hK14 => ?_
                refine SW.region _ _ _ _ ?_
                refine RL.p T ?_
                refine RL.nil _ _ _ _ ?_
                refine hK14 _ _ _ ?_
                refine SW.ret ?_
                refine retQ.wk (H) ?_
                refine retQ.rr _ ?_ (hH := fun w hw => hw)
                clear hK14 K14 hK13 K13 hK12 K12 hK9 K9 hK8 K8 hK7 K7 hK5 K5 hK4 K4 hK2 K2 hK1 K1 hK0 K0
                first
                  | exact ⟨rfl, rfl⟩
                )
             ·skip
              first
               | (exfalso; first | omega | contradiction | (clear hK13 K13; clear hK12 K12; clear hK9 K9; clear hK8 K8; clear hK7 K7; clear hK5 K5; clear hK4 K4; clear hK2 K2; clear hK1 K1; clear hK0 K0; simp at *; done))
               | (
                refine RL.p T ?_
                refine RL.p T ?_
                refine RL.p T ?_
                refine RL.nil _ _ _ _ ?_
                refine hK13 _ _ _ ?_
                refine SW.cs (fun hc3 => ?_) (fun hc3 => ?_)
                ·skip
                 first
                  | (exfalso; first | omega | contradiction | (clear hK13 K13; clear hK12 K12; clear hK9 K9; clear hK8 K8; clear hK7 K7; clear hK5 K5; clear hK4 K4; clear hK2 K2; clear hK1 K1; clear hK0 K0; simp at *; done))
                  | (
                   refine SW.seq_k fun K15 hK15 => ?_
                   refine SW.region _ _ _ _ ?_
                   refine RL.p T ?_
                   refine RL.nil _ _ _ _ ?_
                   refine hK15 _ _ _ ?_
                   refine SW.ret ?_
                   refine retQ.wk (H) ?_
                   refine retQ.rr _ ?_ (hH := fun w hw => hw)
                   clear hK15 K15 hK13 K13 hK12 K12 hK9 K9 hK8 K8 hK7 K7 hK5 K5 hK4 K4 hK2 K2 hK1 K1 hK0 K0
                   first
                     | exact ⟨rfl, rfl⟩
                   )
                ·skip
                 first
                  | (exfalso; first | omega | contradiction | (clear hK13 K13; clear hK12 K12; clear hK9 K9; clear hK8 K8; clear hK7 K7; clear hK5 K5; clear hK4 K4; clear hK2 K2; clear hK1 K1; clear hK0 K0; simp at *; done))
                  | (
                   refine SW.skip ?_
                   refine hK12 _ _ _ ?_
                   refine SW.seq_k fun K16 hK16 => ?_
                   refine SW.region _ _ _ _ ?_
                   refine RL.p T ?_
                   refine RL.s ?_
                   first | refine NV.buildc T rfl (rfl : _ = some [_, _, _]) ?_ | refine NV.buildz T rfl (rfl : _ = some [_, _, _]) ?_ | refine NV.pure T (rfl : _ = some (Value.agg #[_, _, _])) ?_
                   refine RL.s ?_
                   refine NV.box rfl (by exact (rfl : _ = [_, _, _])) ?_
                   intro b51_0
                   refine RL.p T ?_
                   refine RL.nil _ _ _ _ ?_
                   refine hK16 _ _ _ ?_
                   refine SW.seq_k fun K17 hK17 => ?_
                   refine SW.seq_k fun K18 hK18 => ?_
                   refine SW.nilrow 80 13 ?_
                   refine SW.wk (.var bq 73 [.int .i64 (room : Nat), .int .i64 0, .slice none 0 0] :: .row none 0 0 80 13 (List.flatMap EnC ([])) :: .var b51_0 47 [.int .i64 (room : Nat), .int .i64 0, .slice none 0 0] :: ([] ++ H)) ?_
                   have h200 : nr ≤ 200 := by first | exact hgt (by assumption) | (apply hgt; simp_all; done)
                   refine SW.region _ _ _ _ ?_
                   refine RL.p T ?_
                   refine RL.p T ?_
                   refine RL.p T ?_
                   refine RL.nil _ _ _ _ ?_
                   refine hK18 _ _ _ ?_
                   refine SW.block ?_
                   refine SW.loopM (fun frB mm fr ds HH => ∃ (k : Nat) (last : Int) (m : Nat) (aq : Option Addr) (cq : Nat) (aM : Option Addr) (cM : Nat) (L : List En) (M : List It) (G : List Chunk), mm = nr - k ∧ (k ≤ nr ∧ (m = L.length ∧ m ≤ 64 ∧ 0 ≤ last ∧ last ≤ (k : Nat) ∧ QR w0 L last G M ∧ Rd w0 G aM m cM 12 (M.flatMap ItC))) ∧ FrIs [4, 9, 10, 11, 12, 13, 14, 15, 16, 17, 18, 19, 20, 21, 54, 55, 56, 57, 58, 59, 60, 61, 62, 63, 64, 65, 66, 67, 68, 69, 70, 71, 72, 73, 74, 75, 76, 77, 78, 79, 80, 81, 82, 83, 84, 85, 86, 87, 88, 89, 90, 91, 92, 93, 94, 95, 96, 97, 98, 99, 100, 101, 102, 103, 104, 105, 106, 107, 108, 109, 110, 111, 112, 113, 114, 115, 116, 117, 118, 119, 120, 121, 122, 123, 124, 125, 126, 127, 128, 129, 130, 131, 132, 133, 134, 135, 136, 137, 138, 139, 140, 141, 142, 143, 144, 145, 146, 147, 148, 149, 150, 151, 152, 153, 154] frB fr [(54, .int .i64 k)] ∧ ds = [] ∧ HH = (.var bq 73 [.int .i64 (room : Nat), .int .i64 last, .slice aq m cq] :: .row aq m cq 80 13 (List.flatMap EnC (L)) :: .var b51_0 47 [.int .i64 (room : Nat), .int .i64 last, .slice aM m cM] :: (G ++ H))) (n := nr - 0) ?_ ?_
                   ·exact ⟨0, 0, 0, none, 0, none, 0, [], [], [], rfl, ⟨Nat.zero_le _, ⟨rfl, Nat.zero_le _, Int.le_refl _, Int.le_refl _, QR.nil, rdNil⟩⟩, (.cons rfl (.nil (by repeat first | with_reducible exact Mx.refl | with_reducible exact Mx.mix | refine Mx.put rfl ?_ | refine Mx.upd rfl ?_ | refine Mx.updl rfl ?_ | refine Mx.fin rfl ?_ | refine Mx.inner rfl ?_ | refine Mx.none ?_ | exact Mx.refl | exact Mx.mix))), rfl, rfl⟩
                   ·rintro mm fr ds HH ⟨k, last, m, aq, cq, aM, cM, L, M, G, rfl, ⟨hk, ⟨hLm, hm64, hl0, hlk, hQ, hRd⟩⟩, hFr, rfl, eHH⟩
                    obtain rfl := eHH.symm
                    obtain ⟨frU, rfl⟩ := hFr.eq
                    clear hFr
                    have hx : ∀ {H : List Chunk}, FsOk w0 H (ls.getD k default).x := fun {H} => getQ_mem (hls H) k
                    have hlen := hQ.len
                    refine SW.seq_k fun K19 hK19 => ?_
                    refine SW.region _ _ _ _ ?_
                    refine RL.p T ?_
                    refine RL.nil _ _ _ _ ?_
                    refine hK19 _ _ _ ?_
                    refine SW.seq_k fun K20 hK20 => ?_
                    refine SW.cs (fun hc4 => ?_) (fun hc4 => ?_)
                    ·skip
                     first
                      | (exfalso; first | omega | contradiction | (clear hK20 K20; clear hK19 K19; clear hK18 K18; clear hK17 K17; clear hK16 K16; clear hK13 K13; clear hK12 K12; clear hK9 K9; clear hK8 K8; clear hK7 K7; clear hK5 K5; clear hK4 K4; clear hK2 K2; clear hK1 K1; clear hK0 K0; simp at *; done))
                      | (
                       refine SW.skip ?_
                       refine hK20 _ _ _ ?_
                       refine SW.seq_k fun K21 hK21 => ?_
                       refine SW.block ?_
                       refine SW.seq_k fun K22 hK22 => ?_
                       refine SW.region _ _ _ _ ?_
                       refine RL.ix T ?_ (hR := fun hs => (by first | exact hB _ | exact (Rd.rowh hs (by repeat first | exact At.head _ _ | apply At.tail | apply At.app))))
                       refine RL.leN T ?_ (hR := fun hs => (by first | exact hB _ | exact (Rd.rowh hs (by repeat first | exact At.head _ _ | apply At.tail | apply At.app)))) (hvs := (by exact (rfl : _ = [_, _, _, _, _, _, _, _, _, _, _, _, _])))
                       refine RL.s ?_
                       refine NV.alloc T rfl rfl rfl (by exact (rfl : _ = [_, _, _, _, _, _, _, _, _, _, _, _, _])) ?_
                       intro b9_1
                       refine RL.s ?_
                       refine NV.sN T rfl rfl rfl (by exact (rfl : _ = [_, _, _, _, _, _, _, _, _, _, _, _, _])) (by exact (rfl : _ = [_, _, _, _, _, _, _, _, _, _, _, _, _])) ?_
                       refine RL.nil _ _ _ _ ?_
                       refine hK22 _ _ _ ?_
                       refine SW.seq_k fun K23 hK23 => ?_
                       refine SW.seq_k fun K24 hK24 => ?_
                       refine SW.region _ _ _ _ ?_
                       refine RL.p T ?_
                       refine RL.lv1 T ?_
                       refine RL.nil _ _ _ _ ?_
                       refine hK24 _ _ _ ?_
                       refine SW.block ?_
                       refine SW.seq_k fun K25 hK25 => ?_
                       refine SW.region _ _ _ _ ?_
                       refine RL.p T ?_
                       refine RL.p T ?_
                       refine RL.nil _ _ _ _ ?_
                       refine hK25 _ _ _ ?_
                       refine SW.cs (fun hc5 => ?_) (fun hc5 => ?_)
                       ·skip
                        first
                         | (exfalso; first | omega | contradiction | (clear hK25 K25; clear hK24 K24; clear hK23 K23; clear hK22 K22; clear hK21 K21; clear hK20 K20; clear hK19 K19; clear hK18 K18; clear hK17 K17; clear hK16 K16; clear hK13 K13; clear hK12 K12; clear hK9 K9; clear hK8 K8; clear hK7 K7; clear hK5 K5; clear hK4 K4; clear hK2 K2; clear hK1 K1; clear hK0 K0; simp at *; done))
                         | (
                          refine SW.seq_k fun K26 hK26 => ?_
                          refine SW.region _ _ _ _ ?_
                          refine RL.p T ?_
                          refine RL.c fun14 (fun hs => SC.wk (takeV bq (room : Nat) last aq m cq L hLm (by omega) (fun q hq => (hQ.qi.fs q hq).sub SubL.by) hQ (H := .var b51_0 47 [.int .i64 (room : Nat), .int .i64 last, .slice aM m cM] :: (G ++ H)))) ?_
                          rintro _ _ ⟨it, er, m1, L1, D, rfl, e, hit, her, hih, hm1, hmn, hQ1⟩; obtain rfl := e.symm
                          refine RL.p T ?_
                          refine RL.p T ?_
                          refine RL.p T ?_
                          refine RL.s ?_
                          refine NV.alloc T rfl rfl rfl (by exact (rfl : _ = [_, _, _, _, _, _, _, _, _, _, _, _])) ?_
                          intro b10_2
                          refine RL.s ?_
                          refine NV.sN T rfl rfl rfl (by exact (rfl : _ = [_, _, _, _, _, _, _, _, _, _, _, _])) (by exact (rfl : _ = [_, _, _, _, _, _, _, _, _, _, _, _])) ?_
                          refine RL.p T ?_
                          refine RL.nil _ _ _ _ ?_
                          refine hK26 _ _ _ ?_
                          refine SW.seq_k fun K27 hK27 => ?_
                          refine SW.region _ _ _ _ ?_
                          refine RL.p T ?_
                          refine RL.c fun17 (fun hs => SC.wk (rtakeV b51_0 (room : Nat) last aM m cM M (rdO hRd SubL.by) (by omega) (by omega) (H := .var bq 73 [.int .i64 (room : Nat), .int .i64 last, .slice aq m1 cq] :: .row aq m1 cq 80 13 (List.flatMap EnC (L1)) :: (D ++ (.var b10_2 37 (ItC it) :: (G ++ H)))))) ?_
                          rintro _ _ ⟨aM1, nM, cM1, rfl, e, hnM, hRf⟩; obtain rfl := e.symm
                          obtain rfl : m1 = nM := by have := hQ1.len; omega
                          rw [← her]
                          refine RL.p T ?_
                          refine RL.p T ?_
                          refine RL.p T ?_
                          refine RL.s ?_
                          refine NV.alloc T rfl rfl rfl (by exact (rfl : _ = [_, _, _, _, _, _, _, _, _, _, _, _])) ?_
                          intro b12_3
                          refine RL.s ?_
                          refine NV.sN T rfl rfl rfl (by exact (rfl : _ = [_, _, _, _, _, _, _, _, _, _, _, _])) (by exact (rfl : _ = [_, _, _, _, _, _, _, _, _, _, _, _])) ?_
                          refine RL.p T ?_
                          refine RL.nil _ _ _ _ ?_
                          refine hK27 _ _ _ ?_
                          refine SW.seq_k fun K28 hK28 => ?_
                          obtain ⟨aq9, cq9, last9, aM9, cM9, m9, L9, M9, G9, hN⟩ : ∃ (aq9 : Option Addr) (cq9 : Nat) (last9 : Int) (aM9 : Option Addr) (cM9 m9 : Nat) (L9 : List En) (M9 : List It) (G9 : List Chunk), aq9 = aq ∧ cq9 = cq ∧ last9 = last ∧ aM9 = aM1 ∧ cM9 = cM1 ∧ m9 = m1 ∧ L9 = L1 ∧ M9 = M.tail ∧ G9 = G := ⟨_, _, _, _, _, _, _, _, _, rfl, rfl, rfl, rfl, rfl, rfl, rfl, rfl, rfl⟩
                          obtain ⟨h9a, h9b, h9c, h9d, h9e, h9f⟩ : m9 = L9.length ∧ m9 ≤ 64 ∧ 0 ≤ last9 ∧ last9 ≤ (k : Nat) + 1 ∧ QR w0 L9 last9 G9 M9 ∧ Rd w0 G9 aM9 m9 cM9 12 (M9.flatMap ItC) := by
                            obtain ⟨rfl, rfl, rfl, rfl, rfl, rfl, rfl, rfl, rfl⟩ := hN
                            exact ⟨hm1, by omega, by omega, by omega, hQ1, hRf _ hRd⟩
                          have h9g := h9e.len
                          refine SW.region _ _ _ _ ?_
                          refine RL.q (QV.vN T rfl rfl rfl rfl rfl (by exact (rfl : _ = [_, _, _, _, _, _, _, _, _, _, _, _]))) ?_
                          refine RL.q (QV.vN T rfl rfl rfl rfl rfl (by exact (rfl : _ = [_, _, _, _, _, _, _, _, _, _, _, _]))) ?_
                          refine RL.c fun18 (fun hs => (rsame it (M.getD 0 default) (hit.sub SubL.by) ((getI_mem hQ.ok 0).sub SubL.by)).mono (fun v H' h => by rw [hih.1, hih.2, sameF_refl, decide_eq_true rfl] at h; exact h)) ?_
                          rintro _ _ ⟨rfl, e⟩; obtain rfl := e.symm
                          refine RL.p T ?_
                          refine RL.p T ?_
                          refine RL.sp 98 (fun hs4 => ?_) (fun hs4 => ?_)
                          ·skip
                           first
                            | (exfalso; first | omega | contradiction | (clear hK28 K28; clear hK27 K27; clear hK26 K26; clear hK25 K25; clear hK24 K24; clear hK23 K23; clear hK22 K22; clear hK21 K21; clear hK20 K20; clear hK19 K19; clear hK18 K18; clear hK17 K17; clear hK16 K16; clear hK13 K13; clear hK12 K12; clear hK9 K9; clear hK8 K8; clear hK7 K7; clear hK5 K5; clear hK4 K4; clear hK2 K2; clear hK1 K1; clear hK0 K0; simp at *; done))
                            | (
                             refine RL.guard_no rfl rfl rfl ?_
                             refine RL.guard_no rfl rfl rfl ?_
                             refine RL.guard_no rfl rfl rfl ?_
                             refine RL.p T ?_
                             refine RL.nil _ _ _ _ ?_
                             refine hK28 _ _ _ ?_
                             refine SW.cond_t rfl ?_
                             refine SW.seq_k fun K29 hK29 => ?_
                             refine SW.region _ _ _ _ ?_
                             refine RL.p T ?_
                             refine RL.nil _ _ _ _ ?_
                             refine hK29 _ _ _ ?_
                             refine SW.ret ?_
                             refine retQ.wk (H) ?_
                             refine retQ.rr _ ?_ (hH := fun w hw => hw)
                             clear hK29 K29 hK28 K28 hK27 K27 hK26 K26 hK25 K25 hK24 K24 hK23 K23 hK22 K22 hK21 K21 hK20 K20 hK19 K19 hK18 K18 hK17 K17 hK16 K16 hK13 K13 hK12 K12 hK9 K9 hK8 K8 hK7 K7 hK5 K5 hK4 K4 hK2 K2 hK1 K1 hK0 K0
                             first
                               | exact ⟨rfl, rfl⟩
                             )
                          ·skip
                           first
                            | (exfalso; first | omega | contradiction | (clear hK28 K28; clear hK27 K27; clear hK26 K26; clear hK25 K25; clear hK24 K24; clear hK23 K23; clear hK22 K22; clear hK21 K21; clear hK20 K20; clear hK19 K19; clear hK18 K18; clear hK17 K17; clear hK16 K16; clear hK13 K13; clear hK12 K12; clear hK9 K9; clear hK8 K8; clear hK7 K7; clear hK5 K5; clear hK4 K4; clear hK2 K2; clear hK1 K1; clear hK0 K0; simp at *; done))
                            | (
                             refine RL.p T ?_
                             refine RL.p T ?_
                             refine RL.p T ?_
                             refine RL.p T ?_
                             refine RL.nil _ _ _ _ ?_
                             refine hK28 _ _ _ ?_
                             refine SW.cs (fun hc6 => ?_) (fun hc6 => ?_)
                             ·skip
                              first
                               | (exfalso; first | omega | contradiction | (clear hK28 K28; clear hK27 K27; clear hK26 K26; clear hK25 K25; clear hK24 K24; clear hK23 K23; clear hK22 K22; clear hK21 K21; clear hK20 K20; clear hK19 K19; clear hK18 K18; clear hK17 K17; clear hK16 K16; clear hK13 K13; clear hK12 K12; clear hK9 K9; clear hK8 K8; clear hK7 K7; clear hK5 K5; clear hK4 K4; clear hK2 K2; clear hK1 K1; clear hK0 K0; simp at *; done))
                               | (
                                refine SW.seq_k fun K30 hK30 => ?_
                                refine SW.region _ _ _ _ ?_
                                refine RL.p T ?_
                                refine RL.nil _ _ _ _ ?_
                                refine hK30 _ _ _ ?_
                                refine SW.ret ?_
                                refine retQ.wk (H) ?_
                                refine retQ.rr _ ?_ (hH := fun w hw => hw)
                                clear hK30 K30 hK28 K28 hK27 K27 hK26 K26 hK25 K25 hK24 K24 hK23 K23 hK22 K22 hK21 K21 hK20 K20 hK19 K19 hK18 K18 hK17 K17 hK16 K16 hK13 K13 hK12 K12 hK9 K9 hK8 K8 hK7 K7 hK5 K5 hK4 K4 hK2 K2 hK1 K1 hK0 K0
                                first
                                  | exact ⟨rfl, rfl⟩
                                )
                             ·skip
                              first
                               | (exfalso; first | omega | contradiction | (clear hK28 K28; clear hK27 K27; clear hK26 K26; clear hK25 K25; clear hK24 K24; clear hK23 K23; clear hK22 K22; clear hK21 K21; clear hK20 K20; clear hK19 K19; clear hK18 K18; clear hK17 K17; clear hK16 K16; clear hK13 K13; clear hK12 K12; clear hK9 K9; clear hK8 K8; clear hK7 K7; clear hK5 K5; clear hK4 K4; clear hK2 K2; clear hK1 K1; clear hK0 K0; simp at *; done))
                               | (
                                refine SW.skip ?_
                                refine hK23 _ _ _ ?_
                                refine SW.seq_k fun K31 hK31 => ?_
                                refine SW.wk (.var bq 73 [.int .i64 (room : Nat), .int .i64 last9, .slice aq9 m9 cq9] :: .row aq9 m9 cq9 80 13 (List.flatMap EnC (L9)) :: .var b51_0 47 [.int .i64 (room : Nat), .int .i64 last9, .slice aM9 m9 cM9] :: (G9 ++ H)) ?_ (hs := by obtain ⟨rfl, rfl, rfl, rfl, rfl, rfl, rfl, rfl, rfl⟩ := hN; (try subst hnm); exact SubL.by)
                                refine SW.draw [(135, 0), (136, 1), (137, 2), (138, 3), (139, 4), (140, 5), (141, 6), (142, 7), (143, 8), (144, 9), (145, 10), (146, 11), (147, 12), (148, 13), (149, 14), (150, 15), (151, 16), (152, 17), (153, 18)] [[], [0], [], [2], [3, 2], [4, 3, 2], [5, 4, 3, 2], [1, 0, 6, 5, 4, 3, 2], [7, 1, 0, 6, 5, 4, 3, 2], [8, 7, 1, 0, 6, 5, 4, 3, 2], [9, 8, 7, 1, 0, 6, 5, 4, 3, 2], [10, 9, 8, 7, 1, 0, 6, 5, 4, 3, 2], [8, 7, 1, 0, 6, 5, 4, 3, 2], [12, 8, 7, 1, 0, 6, 5, 4, 3, 2], [13, 12, 8, 7, 1, 0, 6, 5, 4, 3, 2], [14, 13, 12, 8, 7, 1, 0, 6, 5, 4, 3, 2], [11, 10, 9, 8, 7, 1, 0, 6, 5, 4, 3, 2, 15, 14, 13, 12], [16, 11, 10, 9, 8, 7, 1, 0, 6, 5, 4, 3, 2, 15, 14, 13, 12], [8, 7, 1, 0, 6, 5, 4, 3, 2, 17, 16, 11, 10, 9, 15, 14, 13, 12]] mixed (by kernel_rfl) (by kernel_rfl) ?_
                                refine RD.p T ?_
                                refine RD.p T ?_
                                refine RD.p T ?_
                                refine RD.p T ?_
                                refine RD.q rfl rfl (Gd.none rfl) (QV.v1 T) ?_
                                refine RD.p T ?_
                                refine RD.nv rfl rfl rfl (Gd.none rfl) ?_
                                refine NV.call rfl rfl rfl fun13 rfl rfl (SC.wk (qlen bq (room : Nat) last9 aq9 m9 cq9 (H := .row aq9 m9 cq9 80 13 (List.flatMap EnC (L9)) :: .var b51_0 47 [.int .i64 (room : Nat), .int .i64 last9, .slice aM9 m9 cM9] :: (G9 ++ H)))) ?_
                                rintro _ _ ⟨rfl, e⟩; obtain rfl := e.symm
                                refine ⟨(Stab.cons rfl (Gd.none rfl) (pev_sound T rfl) (Stab.cons rfl (Gd.none rfl) (QV.v1 T) (Stab.cons rfl (Gd.none rfl) (pev_sound T rfl) (Stab.cons rfl (Gd.none rfl) (pev_sound T rfl) (Stab.cons rfl (Gd.none rfl) (pev_sound T rfl) Stab.nil))))), ?_⟩
                                refine RD.p T ?_
                                refine RD.p T ?_
                                refine RD.split 8 rfl (fun hs5 => ?_) (fun hs5 => ?_)
                                ·try simp only [decide_eq_true_eq, decide_eq_false_iff_not, Bool.not_eq_true', Bool.not_eq_false', Int.not_lt, Int.not_le, Int.toNat_natCast] at hs5
                                 first
                                  | (exfalso; first | omega | contradiction | (clear hK31 K31; clear hK28 K28; clear hK27 K27; clear hK26 K26; clear hK25 K25; clear hK24 K24; clear hK23 K23; clear hK22 K22; clear hK21 K21; clear hK20 K20; clear hK19 K19; clear hK18 K18; clear hK17 K17; clear hK16 K16; clear hK13 K13; clear hK12 K12; clear hK9 K9; clear hK8 K8; clear hK7 K7; clear hK5 K5; clear hK4 K4; clear hK2 K2; clear hK1 K1; clear hK0 K0; simp at *; done))
                                  | (
                                   refine RD.skip rfl rfl rfl rfl ?_
                                   refine RD.skip rfl rfl rfl rfl ?_
                                   refine RD.skip rfl rfl rfl rfl ?_
                                   refine RD.skip rfl rfl rfl rfl ?_
                                   refine RD.skip rfl rfl rfl rfl ?_
                                   refine RD.skipN rfl rfl rfl rfl rfl (Stab.skip rfl rfl rfl rfl (Stab.skip rfl rfl rfl rfl (Stab.skip rfl rfl rfl rfl (Stab.skip rfl rfl rfl rfl Stab.nil)))) ?_
                                   refine RD.skipN rfl rfl rfl rfl rfl (Stab.skip rfl rfl rfl rfl (Stab.skip rfl rfl rfl rfl (Stab.skip rfl rfl rfl rfl (Stab.skip rfl rfl rfl rfl Stab.nil)))) ?_
                                   refine RD.skipN rfl rfl rfl rfl rfl Stab.nil ?_
                                   refine RD.skip rfl rfl rfl rfl ?_
                                   refine RD.p T ?_
                                   refine RD.k rfl rfl ?_
                                   refine hK31 _ _ _ ?_
                                   refine SW.cond_t rfl ?_
                                   refine SW.seq_k fun K32 hK32 => ?_
                                   refine SW.region _ _ _ _ ?_
                                   refine RL.p T ?_
                                   refine RL.nil _ _ _ _ ?_
                                   refine hK32 _ _ _ ?_
                                   refine SW.ret ?_
                                   refine retQ.wk (H) ?_
                                   refine retQ.rr _ ?_ (hH := fun w hw => hw)
                                   clear hK32 K32 hK31 K31 hK28 K28 hK27 K27 hK26 K26 hK25 K25 hK24 K24 hK23 K23 hK22 K22 hK21 K21 hK20 K20 hK19 K19 hK18 K18 hK17 K17 hK16 K16 hK13 K13 hK12 K12 hK9 K9 hK8 K8 hK7 K7 hK5 K5 hK4 K4 hK2 K2 hK1 K1 hK0 K0
                                   first
                                     | exact ⟨rfl, rfl⟩
                                   )
                                ·try simp only [decide_eq_true_eq, decide_eq_false_iff_not, Bool.not_eq_true', Bool.not_eq_false', Int.not_lt, Int.not_le, Int.toNat_natCast] at hs5
                                 first
                                  | (exfalso; first | omega | contradiction | (clear hK31 K31; clear hK28 K28; clear hK27 K27; clear hK26 K26; clear hK25 K25; clear hK24 K24; clear hK23 K23; clear hK22 K22; clear hK21 K21; clear hK20 K20; clear hK19 K19; clear hK18 K18; clear hK17 K17; clear hK16 K16; clear hK13 K13; clear hK12 K12; clear hK9 K9; clear hK8 K8; clear hK7 K7; clear hK5 K5; clear hK4 K4; clear hK2 K2; clear hK1 K1; clear hK0 K0; simp at *; done))
                                  | (
                                   refine RD.p T ?_
                                   refine RD.p T ?_
                                   refine RD.p T ?_
                                   refine RD.p T ?_
                                   refine RD.q rfl rfl (Gd.yes rfl rfl) (QV.v1 T) ?_
                                   refine RD.nv rfl rfl rfl (Gd.yes rfl rfl) ?_
                                   refine NV.call rfl rfl rfl fun26 rfl rfl (SC.wk (qall bq (room : Nat) last9 aq9 m9 cq9 L9 h9a (by omega) (fun q hq => (h9e.qi.fs q hq).sub SubL.by) (H := .var b51_0 47 [.int .i64 (room : Nat), .int .i64 last9, .slice aM9 m9 cM9] :: (G9 ++ H)))) ?_
                                   rintro _ _ ⟨oa, oc, out, S2, G2, rfl, hol, hpm, hst, hop, hog, e⟩; obtain rfl := e.symm
                                   refine ⟨(Stab.cons rfl (Gd.yes rfl rfl) (QV.v1 T) (Stab.cons rfl (Gd.yes rfl rfl) (pev_sound T rfl) (Stab.cons rfl (Gd.yes rfl rfl) (pev_sound T rfl) (Stab.cons rfl (Gd.yes rfl rfl) (pev_sound T rfl) Stab.nil)))), ?_⟩
                                   refine RD.nv rfl rfl rfl (Gd.yes rfl rfl) ?_
                                   refine NV.sat (fun hs => ?_) (fun c hc => by cases hc)
                                   refine NV.call rfl rfl rfl fun25 rfl rfl (items oa m9 oc out (Rd.rowh hs (by repeat first | exact At.head _ _ | apply At.tail | apply At.app)) hol.symm (by omega)) ?_
                                   rintro _ _ ⟨ia, ic, rfl, e⟩; obtain rfl := e.symm
                                   refine ⟨(Stab.cons rfl (Gd.yes rfl rfl) (QV.v1 T) (Stab.cons rfl (Gd.yes rfl rfl) (pev_sound T rfl) (Stab.cons rfl (Gd.yes rfl rfl) (pev_sound T rfl) (Stab.cons rfl (Gd.yes rfl rfl) (pev_sound T rfl) Stab.nil)))), ?_⟩
                                   refine RD.nv rfl rfl rfl (Gd.yes rfl rfl) ?_
                                   refine NV.sat (fun hs => ?_) (fun c hc => by cases hc)
                                   refine NV.call rfl rfl rfl fun24 rfl rfl (sames out M9 ia aM9 m9 ic m9 cM9 (Rd.rowh hs (by repeat first | exact At.head _ _ | apply At.tail | apply At.app)) (rdO h9f SubL.by) hol.symm (by omega) (by omega) (by omega) (fun i hi => (hog i hi).sub SubL.by) (fun i hi => (h9e.ok i hi).sub SubL.by) (h9e.all hpm hst hop)) ?_
                                   rintro _ _ ⟨rfl, e⟩; obtain rfl := e.symm
                                   refine ⟨Stab.nil, ?_⟩
                                   refine RD.p T ?_
                                   refine RD.p T ?_
                                   refine RD.k rfl rfl ?_
                                   refine hK31 _ _ _ ?_
                                   refine SW.cs (fun hc7 => ?_) (fun hc7 => ?_)
                                   ·skip
                                    first
                                     | (exfalso; first | omega | contradiction | (clear hK31 K31; clear hK28 K28; clear hK27 K27; clear hK26 K26; clear hK25 K25; clear hK24 K24; clear hK23 K23; clear hK22 K22; clear hK21 K21; clear hK20 K20; clear hK19 K19; clear hK18 K18; clear hK17 K17; clear hK16 K16; clear hK13 K13; clear hK12 K12; clear hK9 K9; clear hK8 K8; clear hK7 K7; clear hK5 K5; clear hK4 K4; clear hK2 K2; clear hK1 K1; clear hK0 K0; simp at *; done))
                                     | (
                                      refine SW.seq_k fun K33 hK33 => ?_
                                      refine SW.region _ _ _ _ ?_
                                      refine RL.p T ?_
                                      refine RL.nil _ _ _ _ ?_
                                      refine hK33 _ _ _ ?_
                                      refine SW.ret ?_
                                      refine retQ.wk (H) ?_
                                      refine retQ.rr _ ?_ (hH := fun w hw => hw)
                                      clear hK33 K33 hK31 K31 hK28 K28 hK27 K27 hK26 K26 hK25 K25 hK24 K24 hK23 K23 hK22 K22 hK21 K21 hK20 K20 hK19 K19 hK18 K18 hK17 K17 hK16 K16 hK13 K13 hK12 K12 hK9 K9 hK8 K8 hK7 K7 hK5 K5 hK4 K4 hK2 K2 hK1 K1 hK0 K0
                                      first
                                        | exact ⟨rfl, rfl⟩
                                      )
                                   ·skip
                                    first
                                     | (exfalso; first | omega | contradiction | (clear hK31 K31; clear hK28 K28; clear hK27 K27; clear hK26 K26; clear hK25 K25; clear hK24 K24; clear hK23 K23; clear hK22 K22; clear hK21 K21; clear hK20 K20; clear hK19 K19; clear hK18 K18; clear hK17 K17; clear hK16 K16; clear hK13 K13; clear hK12 K12; clear hK9 K9; clear hK8 K8; clear hK7 K7; clear hK5 K5; clear hK4 K4; clear hK2 K2; clear hK1 K1; clear hK0 K0; simp at *; done))
                                     | (
                                      refine SW.skip ?_
                                      refine hK21 _ _ _ ?_
                                      refine SW.wk (.var bq 73 [.int .i64 (room : Nat), .int .i64 last9, .slice aq9 m9 cq9] :: .row aq9 m9 cq9 80 13 (List.flatMap EnC (L9)) :: .var b51_0 47 [.int .i64 (room : Nat), .int .i64 last9, .slice aM9 m9 cM9] :: (G9 ++ H)) ?_
                                      refine SW.region _ _ _ _ ?_
                                      first | refine RL.ar ?_ | refine RL.p T ?_
                                      refine RL.p T ?_
                                      refine RL.nil _ _ _ _ ?_
                                      exact ⟨nr - (k + 1), (by omega), k + 1, last9, m9, aq9, cq9, aM9, cM9, L9, M9, G9, (by rfl), ⟨by omega, ⟨h9a, h9b, h9c, by omega, h9e, h9f⟩⟩, (.cons rfl (.nil (by repeat first | with_reducible exact Mx.refl | with_reducible exact Mx.mix | refine Mx.put rfl ?_ | refine Mx.upd rfl ?_ | refine Mx.updl rfl ?_ | refine Mx.fin rfl ?_ | refine Mx.inner rfl ?_ | refine Mx.none ?_ | exact Mx.refl | exact Mx.mix))), rfl, rfl⟩
                                      )
                                   )
                                )
                             )
                          )
                       ·skip
                        first
                         | (exfalso; first | omega | contradiction | (clear hK25 K25; clear hK24 K24; clear hK23 K23; clear hK22 K22; clear hK21 K21; clear hK20 K20; clear hK19 K19; clear hK18 K18; clear hK17 K17; clear hK16 K16; clear hK13 K13; clear hK12 K12; clear hK9 K9; clear hK8 K8; clear hK7 K7; clear hK5 K5; clear hK4 K4; clear hK2 K2; clear hK1 K1; clear hK0 K0; simp at *; done))
                         | (
                          refine SW.seq_k fun K34 hK34 => ?_
                          refine SW.region _ _ _ _ ?_
                          refine RL.p T ?_
                          refine RL.p T ?_
                          refine RL.nil _ _ _ _ ?_
                          refine hK34 _ _ _ ?_
                          refine SW.cs (fun hc8 => ?_) (fun hc8 => ?_)
                          ·skip
                           first
                            | (exfalso; first | omega | contradiction | (clear hK34 K34; clear hK25 K25; clear hK24 K24; clear hK23 K23; clear hK22 K22; clear hK21 K21; clear hK20 K20; clear hK19 K19; clear hK18 K18; clear hK17 K17; clear hK16 K16; clear hK13 K13; clear hK12 K12; clear hK9 K9; clear hK8 K8; clear hK7 K7; clear hK5 K5; clear hK4 K4; clear hK2 K2; clear hK1 K1; clear hK0 K0; simp at *; done))
                            | (
                             refine SW.seq_k fun K35 hK35 => ?_
                             refine SW.draw [(105, 0), (106, 1), (107, 2), (108, 3), (109, 4), (110, 5), (111, 6), (112, 7), (113, 8)] [[], [], [1], [0, 2, 1], [], [], [5], [4, 6, 5, 3, 0, 2, 1], [3, 0, 2, 1, 7, 4, 6, 5]] mixed (by kernel_rfl) (by kernel_rfl) ?_
                             refine RD.p T ?_
                             refine RD.p T ?_
                             refine RD.q rfl rfl (Gd.none rfl) (QV.v1 T) ?_
                             refine RD.p T ?_
                             refine RD.p T ?_
                             refine RD.q rfl rfl (Gd.none rfl) (QV.v1 T) ?_
                             refine RD.nv rfl rfl rfl (Gd.none rfl) ?_
                             refine NV.call rfl rfl rfl fun19 rfl rfl (SC.wk (cancelU bq (room : Nat) last aq m cq L hLm (by omega) (ls.getD k default).no (H := .var b51_0 47 [.int .i64 (room : Nat), .int .i64 last, .slice aM m cM] :: .var b9_1 49 (QaC (ls.getD k default)) :: (G ++ H)))) ?_
                             rintro _ _ ⟨er, m1, L1, rfl, e, hcan⟩; obtain rfl := e.symm
                             refine ⟨(Stab.cons rfl (Gd.none rfl) (QV.v1 T) (Stab.cons rfl (Gd.none rfl) (pev_sound T rfl) (Stab.cons rfl (Gd.none rfl) (pev_sound T rfl) Stab.nil))), ?_⟩
                             refine RD.nv rfl rfl rfl (Gd.none rfl) ?_
                             refine NV.call rfl rfl rfl fun20 rfl rfl (SC.wk (rcancel b51_0 (room : Nat) last aM m cM M (rdO hRd SubL.by) (by omega) (by omega) (ls.getD k default).no (H := .var bq 73 [.int .i64 (room : Nat), .int .i64 last, .slice aq m1 cq] :: .row aq m1 cq 80 13 (List.flatMap EnC (L1)) :: .var b9_1 49 (QaC (ls.getD k default)) :: (G ++ H)))) ?_
                             rintro _ _ ⟨er2, aM1, nM, cM1, M1, D1, rfl, e, hnM, hRf, hcr⟩; obtain rfl := e.symm
                             obtain ⟨heq, hQ1⟩ := hQ.cancel hLm (canc hLm hQ.qi hcan) hcr
                             have hm1 := (canc hLm hQ.qi hcan).1
                             have hm2 := (canc hLm hQ.qi hcan).2.1
                             have hnm : nM = m1 := by have := hQ1.len; omega
                             obtain ⟨aq9, cq9, last9, aM9, cM9, m9, L9, M9, G9, hN⟩ : ∃ (aq9 : Option Addr) (cq9 : Nat) (last9 : Int) (aM9 : Option Addr) (cM9 m9 : Nat) (L9 : List En) (M9 : List It) (G9 : List Chunk), aq9 = aq ∧ cq9 = cq ∧ last9 = last ∧ aM9 = aM1 ∧ cM9 = cM1 ∧ m9 = m1 ∧ L9 = L1 ∧ M9 = M1 ∧ G9 = D1 ++ G := ⟨_, _, _, _, _, _, _, _, _, rfl, rfl, rfl, rfl, rfl, rfl, rfl, rfl, rfl⟩
                             obtain ⟨h9a, h9b, h9c, h9d, h9e, h9f⟩ : m9 = L9.length ∧ m9 ≤ 64 ∧ 0 ≤ last9 ∧ last9 ≤ (k : Nat) + 1 ∧ QR w0 L9 last9 G9 M9 ∧ Rd w0 G9 aM9 m9 cM9 12 (M9.flatMap ItC) := by
                               obtain ⟨rfl, rfl, rfl, rfl, rfl, rfl, rfl, rfl, rfl⟩ := hN
                               exact ⟨hm1, by omega, by omega, by omega, hQ1.appl D1, by rw [← hnm]; exact hRf _ hRd⟩
                             have h9g := h9e.len
                             refine ⟨Stab.nil, ?_⟩
                             refine RD.p T ?_
                             refine RD.k rfl rfl ?_
                             refine hK35 _ _ _ ?_
                             refine SW.cs (fun hc9 => ?_) (fun hc9 => ?_)
                             ·skip
                              first
                               | (exfalso; first | omega | contradiction | (clear hK35 K35; clear hK34 K34; clear hK25 K25; clear hK24 K24; clear hK23 K23; clear hK22 K22; clear hK21 K21; clear hK20 K20; clear hK19 K19; clear hK18 K18; clear hK17 K17; clear hK16 K16; clear hK13 K13; clear hK12 K12; clear hK9 K9; clear hK8 K8; clear hK7 K7; clear hK5 K5; clear hK4 K4; clear hK2 K2; clear hK1 K1; clear hK0 K0; simp at *; done))
                               | (
                                refine SW.seq_k fun K36 hK36 => ?_
                                refine SW.region _ _ _ _ ?_
                                refine RL.p T ?_
                                refine RL.nil _ _ _ _ ?_
                                refine hK36 _ _ _ ?_
                                refine SW.ret ?_
                                refine retQ.wk (H) ?_
                                refine retQ.rr _ ?_ (hH := fun w hw => hw)
                                clear hK36 K36 hK35 K35 hK34 K34 hK25 K25 hK24 K24 hK23 K23 hK22 K22 hK21 K21 hK20 K20 hK19 K19 hK18 K18 hK17 K17 hK16 K16 hK13 K13 hK12 K12 hK9 K9 hK8 K8 hK7 K7 hK5 K5 hK4 K4 hK2 K2 hK1 K1 hK0 K0
                                first
                                  | exact ⟨rfl, rfl⟩
                                )
                             ·skip
                              first
                               | (exfalso; first | omega | contradiction | (clear hK35 K35; clear hK34 K34; clear hK25 K25; clear hK24 K24; clear hK23 K23; clear hK22 K22; clear hK21 K21; clear hK20 K20; clear hK19 K19; clear hK18 K18; clear hK17 K17; clear hK16 K16; clear hK13 K13; clear hK12 K12; clear hK9 K9; clear hK8 K8; clear hK7 K7; clear hK5 K5; clear hK4 K4; clear hK2 K2; clear hK1 K1; clear hK0 K0; simp at *; done))
                               | (
                                refine SW.skip ?_
                                refine hK23 _ _ _ ?_
                                refine SW.seq_k fun K37 hK37 => ?_
                                refine SW.wk (.var bq 73 [.int .i64 (room : Nat), .int .i64 last9, .slice aq9 m9 cq9] :: .row aq9 m9 cq9 80 13 (List.flatMap EnC (L9)) :: .var b51_0 47 [.int .i64 (room : Nat), .int .i64 last9, .slice aM9 m9 cM9] :: (G9 ++ H)) ?_ (hs := by obtain ⟨rfl, rfl, rfl, rfl, rfl, rfl, rfl, rfl, rfl⟩ := hN; (try subst hnm); exact SubL.by)
                                refine SW.draw [(135, 0), (136, 1), (137, 2), (138, 3), (139, 4), (140, 5), (141, 6), (142, 7), (143, 8), (144, 9), (145, 10), (146, 11), (147, 12), (148, 13), (149, 14), (150, 15), (151, 16), (152, 17), (153, 18)] [[], [0], [], [2], [3, 2], [4, 3, 2], [5, 4, 3, 2], [1, 0, 6, 5, 4, 3, 2], [7, 1, 0, 6, 5, 4, 3, 2], [8, 7, 1, 0, 6, 5, 4, 3, 2], [9, 8, 7, 1, 0, 6, 5, 4, 3, 2], [10, 9, 8, 7, 1, 0, 6, 5, 4, 3, 2], [8, 7, 1, 0, 6, 5, 4, 3, 2], [12, 8, 7, 1, 0, 6, 5, 4, 3, 2], [13, 12, 8, 7, 1, 0, 6, 5, 4, 3, 2], [14, 13, 12, 8, 7, 1, 0, 6, 5, 4, 3, 2], [11, 10, 9, 8, 7, 1, 0, 6, 5, 4, 3, 2, 15, 14, 13, 12], [16, 11, 10, 9, 8, 7, 1, 0, 6, 5, 4, 3, 2, 15, 14, 13, 12], [8, 7, 1, 0, 6, 5, 4, 3, 2, 17, 16, 11, 10, 9, 15, 14, 13, 12]] mixed (by kernel_rfl) (by kernel_rfl) ?_
                                refine RD.p T ?_
                                refine RD.p T ?_
                                refine RD.p T ?_
                                refine RD.p T ?_
                                refine RD.q rfl rfl (Gd.none rfl) (QV.v1 T) ?_
                                refine RD.p T ?_
                                refine RD.nv rfl rfl rfl (Gd.none rfl) ?_
                                refine NV.call rfl rfl rfl fun13 rfl rfl (SC.wk (qlen bq (room : Nat) last9 aq9 m9 cq9 (H := .row aq9 m9 cq9 80 13 (List.flatMap EnC (L9)) :: .var b51_0 47 [.int .i64 (room : Nat), .int .i64 last9, .slice aM9 m9 cM9] :: (G9 ++ H)))) ?_
                                rintro _ _ ⟨rfl, e⟩; obtain rfl := e.symm
                                refine ⟨(Stab.cons rfl (Gd.none rfl) (pev_sound T rfl) (Stab.cons rfl (Gd.none rfl) (QV.v1 T) (Stab.cons rfl (Gd.none rfl) (pev_sound T rfl) (Stab.cons rfl (Gd.none rfl) (pev_sound T rfl) (Stab.cons rfl (Gd.none rfl) (pev_sound T rfl) Stab.nil))))), ?_⟩
                                refine RD.p T ?_
                                refine RD.p T ?_
                                refine RD.split 8 rfl (fun hs6 => ?_) (fun hs6 => ?_)
                                ·try simp only [decide_eq_true_eq, decide_eq_false_iff_not, Bool.not_eq_true', Bool.not_eq_false', Int.not_lt, Int.not_le, Int.toNat_natCast] at hs6
                                 first
                                  | (exfalso; first | omega | contradiction | (clear hK37 K37; clear hK35 K35; clear hK34 K34; clear hK25 K25; clear hK24 K24; clear hK23 K23; clear hK22 K22; clear hK21 K21; clear hK20 K20; clear hK19 K19; clear hK18 K18; clear hK17 K17; clear hK16 K16; clear hK13 K13; clear hK12 K12; clear hK9 K9; clear hK8 K8; clear hK7 K7; clear hK5 K5; clear hK4 K4; clear hK2 K2; clear hK1 K1; clear hK0 K0; simp at *; done))
                                  | (
                                   refine RD.skip rfl rfl rfl rfl ?_
                                   refine RD.skip rfl rfl rfl rfl ?_
                                   refine RD.skip rfl rfl rfl rfl ?_
                                   refine RD.skip rfl rfl rfl rfl ?_
                                   refine RD.skip rfl rfl rfl rfl ?_
                                   refine RD.skipN rfl rfl rfl rfl rfl (Stab.skip rfl rfl rfl rfl (Stab.skip rfl rfl rfl rfl (Stab.skip rfl rfl rfl rfl (Stab.skip rfl rfl rfl rfl Stab.nil)))) ?_
                                   refine RD.skipN rfl rfl rfl rfl rfl (Stab.skip rfl rfl rfl rfl (Stab.skip rfl rfl rfl rfl (Stab.skip rfl rfl rfl rfl (Stab.skip rfl rfl rfl rfl Stab.nil)))) ?_
                                   refine RD.skipN rfl rfl rfl rfl rfl Stab.nil ?_
                                   refine RD.skip rfl rfl rfl rfl ?_
                                   refine RD.p T ?_
                                   refine RD.k rfl rfl ?_
                                   refine hK37 _ _ _ ?_
                                   refine SW.cond_t rfl ?_
                                   refine SW.seq_k fun K38 hK38 => ?_
                                   refine SW.region _ _ _ _ ?_
                                   refine RL.p T ?_
                                   refine RL.nil _ _ _ _ ?_
                                   refine hK38 _ _ _ ?_
                                   refine SW.ret ?_
                                   refine retQ.wk (H) ?_
                                   refine retQ.rr _ ?_ (hH := fun w hw => hw)
                                   clear hK38 K38 hK37 K37 hK35 K35 hK34 K34 hK25 K25 hK24 K24 hK23 K23 hK22 K22 hK21 K21 hK20 K20 hK19 K19 hK18 K18 hK17 K17 hK16 K16 hK13 K13 hK12 K12 hK9 K9 hK8 K8 hK7 K7 hK5 K5 hK4 K4 hK2 K2 hK1 K1 hK0 K0
                                   first
                                     | exact ⟨rfl, rfl⟩
                                   )
                                ·try simp only [decide_eq_true_eq, decide_eq_false_iff_not, Bool.not_eq_true', Bool.not_eq_false', Int.not_lt, Int.not_le, Int.toNat_natCast] at hs6
                                 first
                                  | (exfalso; first | omega | contradiction | (clear hK37 K37; clear hK35 K35; clear hK34 K34; clear hK25 K25; clear hK24 K24; clear hK23 K23; clear hK22 K22; clear hK21 K21; clear hK20 K20; clear hK19 K19; clear hK18 K18; clear hK17 K17; clear hK16 K16; clear hK13 K13; clear hK12 K12; clear hK9 K9; clear hK8 K8; clear hK7 K7; clear hK5 K5; clear hK4 K4; clear hK2 K2; clear hK1 K1; clear hK0 K0; simp at *; done))
                                  | (
                                   refine RD.p T ?_
                                   refine RD.p T ?_
                                   refine RD.p T ?_
                                   refine RD.p T ?_
                                   refine RD.q rfl rfl (Gd.yes rfl rfl) (QV.v1 T) ?_
                                   refine RD.nv rfl rfl rfl (Gd.yes rfl rfl) ?_
                                   refine NV.call rfl rfl rfl fun26 rfl rfl (SC.wk (qall bq (room : Nat) last9 aq9 m9 cq9 L9 h9a (by omega) (fun q hq => (h9e.qi.fs q hq).sub SubL.by) (H := .var b51_0 47 [.int .i64 (room : Nat), .int .i64 last9, .slice aM9 m9 cM9] :: (G9 ++ H)))) ?_
                                   rintro _ _ ⟨oa, oc, out, S2, G2, rfl, hol, hpm, hst, hop, hog, e⟩; obtain rfl := e.symm
                                   refine ⟨(Stab.cons rfl (Gd.yes rfl rfl) (QV.v1 T) (Stab.cons rfl (Gd.yes rfl rfl) (pev_sound T rfl) (Stab.cons rfl (Gd.yes rfl rfl) (pev_sound T rfl) (Stab.cons rfl (Gd.yes rfl rfl) (pev_sound T rfl) Stab.nil)))), ?_⟩
                                   refine RD.nv rfl rfl rfl (Gd.yes rfl rfl) ?_
                                   refine NV.sat (fun hs => ?_) (fun c hc => by cases hc)
                                   refine NV.call rfl rfl rfl fun25 rfl rfl (items oa m9 oc out (Rd.rowh hs (by repeat first | exact At.head _ _ | apply At.tail | apply At.app)) hol.symm (by omega)) ?_
                                   rintro _ _ ⟨ia, ic, rfl, e⟩; obtain rfl := e.symm
                                   refine ⟨(Stab.cons rfl (Gd.yes rfl rfl) (QV.v1 T) (Stab.cons rfl (Gd.yes rfl rfl) (pev_sound T rfl) (Stab.cons rfl (Gd.yes rfl rfl) (pev_sound T rfl) (Stab.cons rfl (Gd.yes rfl rfl) (pev_sound T rfl) Stab.nil)))), ?_⟩
                                   refine RD.nv rfl rfl rfl (Gd.yes rfl rfl) ?_
                                   refine NV.sat (fun hs => ?_) (fun c hc => by cases hc)
                                   refine NV.call rfl rfl rfl fun24 rfl rfl (sames out M9 ia aM9 m9 ic m9 cM9 (Rd.rowh hs (by repeat first | exact At.head _ _ | apply At.tail | apply At.app)) (rdO h9f SubL.by) hol.symm (by omega) (by omega) (by omega) (fun i hi => (hog i hi).sub SubL.by) (fun i hi => (h9e.ok i hi).sub SubL.by) (h9e.all hpm hst hop)) ?_
                                   rintro _ _ ⟨rfl, e⟩; obtain rfl := e.symm
                                   refine ⟨Stab.nil, ?_⟩
                                   refine RD.p T ?_
                                   refine RD.p T ?_
                                   refine RD.k rfl rfl ?_
                                   refine hK37 _ _ _ ?_
                                   refine SW.cs (fun hc10 => ?_) (fun hc10 => ?_)
                                   ·skip
                                    first
                                     | (exfalso; first | omega | contradiction | (clear hK37 K37; clear hK35 K35; clear hK34 K34; clear hK25 K25; clear hK24 K24; clear hK23 K23; clear hK22 K22; clear hK21 K21; clear hK20 K20; clear hK19 K19; clear hK18 K18; clear hK17 K17; clear hK16 K16; clear hK13 K13; clear hK12 K12; clear hK9 K9; clear hK8 K8; clear hK7 K7; clear hK5 K5; clear hK4 K4; clear hK2 K2; clear hK1 K1; clear hK0 K0; simp at *; done))
                                     | (
                                      refine SW.seq_k fun K39 hK39 => ?_
                                      refine SW.region _ _ _ _ ?_
                                      refine RL.p T ?_
                                      refine RL.nil _ _ _ _ ?_
                                      refine hK39 _ _ _ ?_
                                      refine SW.ret ?_
                                      refine retQ.wk (H) ?_
                                      refine retQ.rr _ ?_ (hH := fun w hw => hw)
                                      clear hK39 K39 hK37 K37 hK35 K35 hK34 K34 hK25 K25 hK24 K24 hK23 K23 hK22 K22 hK21 K21 hK20 K20 hK19 K19 hK18 K18 hK17 K17 hK16 K16 hK13 K13 hK12 K12 hK9 K9 hK8 K8 hK7 K7 hK5 K5 hK4 K4 hK2 K2 hK1 K1 hK0 K0
                                      first
                                        | exact ⟨rfl, rfl⟩
                                      )
                                   ·skip
                                    first
                                     | (exfalso; first | omega | contradiction | (clear hK37 K37; clear hK35 K35; clear hK34 K34; clear hK25 K25; clear hK24 K24; clear hK23 K23; clear hK22 K22; clear hK21 K21; clear hK20 K20; clear hK19 K19; clear hK18 K18; clear hK17 K17; clear hK16 K16; clear hK13 K13; clear hK12 K12; clear hK9 K9; clear hK8 K8; clear hK7 K7; clear hK5 K5; clear hK4 K4; clear hK2 K2; clear hK1 K1; clear hK0 K0; simp at *; done))
                                     | (
                                      refine SW.skip ?_
                                      refine hK21 _ _ _ ?_
                                      refine SW.wk (.var bq 73 [.int .i64 (room : Nat), .int .i64 last9, .slice aq9 m9 cq9] :: .row aq9 m9 cq9 80 13 (List.flatMap EnC (L9)) :: .var b51_0 47 [.int .i64 (room : Nat), .int .i64 last9, .slice aM9 m9 cM9] :: (G9 ++ H)) ?_
                                      refine SW.region _ _ _ _ ?_
                                      first | refine RL.ar ?_ | refine RL.p T ?_
                                      refine RL.p T ?_
                                      refine RL.nil _ _ _ _ ?_
                                      exact ⟨nr - (k + 1), (by omega), k + 1, last9, m9, aq9, cq9, aM9, cM9, L9, M9, G9, (by rfl), ⟨by omega, ⟨h9a, h9b, h9c, by omega, h9e, h9f⟩⟩, (.cons rfl (.nil (by repeat first | with_reducible exact Mx.refl | with_reducible exact Mx.mix | refine Mx.put rfl ?_ | refine Mx.upd rfl ?_ | refine Mx.updl rfl ?_ | refine Mx.fin rfl ?_ | refine Mx.inner rfl ?_ | refine Mx.none ?_ | exact Mx.refl | exact Mx.mix))), rfl, rfl⟩
                                      )
                                   )
                                )
                             )
                          ·skip
                           first
                            | (exfalso; first | omega | contradiction | (clear hK34 K34; clear hK25 K25; clear hK24 K24; clear hK23 K23; clear hK22 K22; clear hK21 K21; clear hK20 K20; clear hK19 K19; clear hK18 K18; clear hK17 K17; clear hK16 K16; clear hK13 K13; clear hK12 K12; clear hK9 K9; clear hK8 K8; clear hK7 K7; clear hK5 K5; clear hK4 K4; clear hK2 K2; clear hK1 K1; clear hK0 K0; simp at *; done))
                            | (
                             refine SW.seq_k fun K40 hK40 => ?_
                             refine SW.region _ _ _ _ ?_
                             refine RL.p T ?_
                             refine RL.p T ?_
                             refine RL.nil _ _ _ _ ?_
                             refine hK40 _ _ _ ?_
                             refine SW.cs (fun hc11 => ?_) (fun hc11 => ?_)
                             ·skip
                              first
                               | (exfalso; first | omega | contradiction | (clear hK40 K40; clear hK34 K34; clear hK25 K25; clear hK24 K24; clear hK23 K23; clear hK22 K22; clear hK21 K21; clear hK20 K20; clear hK19 K19; clear hK18 K18; clear hK17 K17; clear hK16 K16; clear hK13 K13; clear hK12 K12; clear hK9 K9; clear hK8 K8; clear hK7 K7; clear hK5 K5; clear hK4 K4; clear hK2 K2; clear hK1 K1; clear hK0 K0; simp at *; done))
                               | (
                                refine SW.seq_k fun K41 hK41 => ?_
                                refine SW.region _ _ _ _ ?_
                                refine RL.p T ?_
                                refine RL.c fun21 (fun hs => SC.wk (headV bq (room : Nat) last aq m cq L hLm (by omega) (fun q hq => (hQ.qi.fs q hq).sub SubL.by) hQ (H := .var b51_0 47 [.int .i64 (room : Nat), .int .i64 last, .slice aM m cM] :: (G ++ H)))) ?_
                                rintro _ _ ⟨it, er, D, rfl, e, hit, her, hih⟩; obtain rfl := e.symm
                                refine RL.p T ?_
                                refine RL.p T ?_
                                refine RL.p T ?_
                                refine RL.s ?_
                                refine NV.alloc T rfl rfl rfl (by exact (rfl : _ = [_, _, _, _, _, _, _, _, _, _, _, _])) ?_
                                intro b14_4
                                refine RL.s ?_
                                refine NV.sN T rfl rfl rfl (by exact (rfl : _ = [_, _, _, _, _, _, _, _, _, _, _, _])) (by exact (rfl : _ = [_, _, _, _, _, _, _, _, _, _, _, _])) ?_
                                refine RL.p T ?_
                                refine RL.nil _ _ _ _ ?_
                                refine hK41 _ _ _ ?_
                                refine SW.seq_k fun K42 hK42 => ?_
                                refine SW.region _ _ _ _ ?_
                                refine RL.p T ?_
                                refine RL.c fun22 (fun hs => SC.wk (rheadV b51_0 (room : Nat) last aM m cM M (rdO hRd SubL.by) (by omega) (by omega) (H := .var bq 73 [.int .i64 (room : Nat), .int .i64 last, .slice aq m cq] :: .row aq m cq 80 13 (List.flatMap EnC (L)) :: (D ++ (.var b14_4 37 (ItC it) :: (G ++ H)))))) ?_
                                rintro _ _ ⟨rfl, e⟩; obtain rfl := e.symm
                                rw [← her]
                                refine RL.p T ?_
                                refine RL.p T ?_
                                refine RL.p T ?_
                                refine RL.s ?_
                                refine NV.alloc T rfl rfl rfl (by exact (rfl : _ = [_, _, _, _, _, _, _, _, _, _, _, _])) ?_
                                intro b16_5
                                refine RL.s ?_
                                refine NV.sN T rfl rfl rfl (by exact (rfl : _ = [_, _, _, _, _, _, _, _, _, _, _, _])) (by exact (rfl : _ = [_, _, _, _, _, _, _, _, _, _, _, _])) ?_
                                refine RL.p T ?_
                                refine RL.nil _ _ _ _ ?_
                                refine hK42 _ _ _ ?_
                                refine SW.seq_k fun K43 hK43 => ?_
                                obtain ⟨aq9, cq9, last9, aM9, cM9, m9, L9, M9, G9, hN⟩ : ∃ (aq9 : Option Addr) (cq9 : Nat) (last9 : Int) (aM9 : Option Addr) (cM9 m9 : Nat) (L9 : List En) (M9 : List It) (G9 : List Chunk), aq9 = aq ∧ cq9 = cq ∧ last9 = last ∧ aM9 = aM ∧ cM9 = cM ∧ m9 = m ∧ L9 = L ∧ M9 = M ∧ G9 = G := ⟨_, _, _, _, _, _, _, _, _, rfl, rfl, rfl, rfl, rfl, rfl, rfl, rfl, rfl⟩
                                obtain ⟨h9a, h9b, h9c, h9d, h9e, h9f⟩ : m9 = L9.length ∧ m9 ≤ 64 ∧ 0 ≤ last9 ∧ last9 ≤ (k : Nat) + 1 ∧ QR w0 L9 last9 G9 M9 ∧ Rd w0 G9 aM9 m9 cM9 12 (M9.flatMap ItC) := by
                                  obtain ⟨rfl, rfl, rfl, rfl, rfl, rfl, rfl, rfl, rfl⟩ := hN
                                  exact ⟨hLm, by omega, by omega, by omega, hQ, hRd⟩
                                have h9g := h9e.len
                                refine SW.region _ _ _ _ ?_
                                refine RL.q (QV.vN T rfl rfl rfl rfl rfl (by exact (rfl : _ = [_, _, _, _, _, _, _, _, _, _, _, _]))) ?_
                                refine RL.q (QV.vN T rfl rfl rfl rfl rfl (by exact (rfl : _ = [_, _, _, _, _, _, _, _, _, _, _, _]))) ?_
                                refine RL.c fun18 (fun hs => (rsame it (M.getD 0 default) (hit.sub SubL.by) ((getI_mem hQ.ok 0).sub SubL.by)).mono (fun v H' h => by rw [hih.1, hih.2, sameF_refl, decide_eq_true rfl] at h; exact h)) ?_
                                rintro _ _ ⟨rfl, e⟩; obtain rfl := e.symm
                                refine RL.p T ?_
                                refine RL.p T ?_
                                refine RL.sp 130 (fun hs7 => ?_) (fun hs7 => ?_)
                                ·skip
                                 first
                                  | (exfalso; first | omega | contradiction | (clear hK43 K43; clear hK42 K42; clear hK41 K41; clear hK40 K40; clear hK34 K34; clear hK25 K25; clear hK24 K24; clear hK23 K23; clear hK22 K22; clear hK21 K21; clear hK20 K20; clear hK19 K19; clear hK18 K18; clear hK17 K17; clear hK16 K16; clear hK13 K13; clear hK12 K12; clear hK9 K9; clear hK8 K8; clear hK7 K7; clear hK5 K5; clear hK4 K4; clear hK2 K2; clear hK1 K1; clear hK0 K0; simp at *; done))
                                  | (
                                   refine RL.guard_no rfl rfl rfl ?_
                                   refine RL.guard_no rfl rfl rfl ?_
                                   refine RL.guard_no rfl rfl rfl ?_
                                   refine RL.p T ?_
                                   refine RL.nil _ _ _ _ ?_
                                   refine hK43 _ _ _ ?_
                                   refine SW.cond_t rfl ?_
                                   refine SW.seq_k fun K44 hK44 => ?_
                                   refine SW.region _ _ _ _ ?_
                                   refine RL.p T ?_
                                   refine RL.nil _ _ _ _ ?_
                                   refine hK44 _ _ _ ?_
                                   refine SW.ret ?_
                                   refine retQ.wk (H) ?_
                                   refine retQ.rr _ ?_ (hH := fun w hw => hw)
                                   clear hK44 K44 hK43 K43 hK42 K42 hK41 K41 hK40 K40 hK34 K34 hK25 K25 hK24 K24 hK23 K23 hK22 K22 hK21 K21 hK20 K20 hK19 K19 hK18 K18 hK17 K17 hK16 K16 hK13 K13 hK12 K12 hK9 K9 hK8 K8 hK7 K7 hK5 K5 hK4 K4 hK2 K2 hK1 K1 hK0 K0
                                   first
                                     | exact ⟨rfl, rfl⟩
                                   )
                                ·skip
                                 first
                                  | (exfalso; first | omega | contradiction | (clear hK43 K43; clear hK42 K42; clear hK41 K41; clear hK40 K40; clear hK34 K34; clear hK25 K25; clear hK24 K24; clear hK23 K23; clear hK22 K22; clear hK21 K21; clear hK20 K20; clear hK19 K19; clear hK18 K18; clear hK17 K17; clear hK16 K16; clear hK13 K13; clear hK12 K12; clear hK9 K9; clear hK8 K8; clear hK7 K7; clear hK5 K5; clear hK4 K4; clear hK2 K2; clear hK1 K1; clear hK0 K0; simp at *; done))
                                  | (
                                   refine RL.p T ?_
                                   refine RL.p T ?_
                                   refine RL.p T ?_
                                   refine RL.p T ?_
                                   refine RL.nil _ _ _ _ ?_
                                   refine hK43 _ _ _ ?_
                                   refine SW.cs (fun hc12 => ?_) (fun hc12 => ?_)
                                   ·skip
                                    first
                                     | (exfalso; first | omega | contradiction | (clear hK43 K43; clear hK42 K42; clear hK41 K41; clear hK40 K40; clear hK34 K34; clear hK25 K25; clear hK24 K24; clear hK23 K23; clear hK22 K22; clear hK21 K21; clear hK20 K20; clear hK19 K19; clear hK18 K18; clear hK17 K17; clear hK16 K16; clear hK13 K13; clear hK12 K12; clear hK9 K9; clear hK8 K8; clear hK7 K7; clear hK5 K5; clear hK4 K4; clear hK2 K2; clear hK1 K1; clear hK0 K0; simp at *; done))
                                     | (
                                      refine SW.seq_k fun K45 hK45 => ?_
                                      refine SW.region _ _ _ _ ?_
                                      refine RL.p T ?_
                                      refine RL.nil _ _ _ _ ?_
                                      refine hK45 _ _ _ ?_
                                      refine SW.ret ?_
                                      refine retQ.wk (H) ?_
                                      refine retQ.rr _ ?_ (hH := fun w hw => hw)
                                      clear hK45 K45 hK43 K43 hK42 K42 hK41 K41 hK40 K40 hK34 K34 hK25 K25 hK24 K24 hK23 K23 hK22 K22 hK21 K21 hK20 K20 hK19 K19 hK18 K18 hK17 K17 hK16 K16 hK13 K13 hK12 K12 hK9 K9 hK8 K8 hK7 K7 hK5 K5 hK4 K4 hK2 K2 hK1 K1 hK0 K0
                                      first
                                        | exact ⟨rfl, rfl⟩
                                      )
                                   ·skip
                                    first
                                     | (exfalso; first | omega | contradiction | (clear hK43 K43; clear hK42 K42; clear hK41 K41; clear hK40 K40; clear hK34 K34; clear hK25 K25; clear hK24 K24; clear hK23 K23; clear hK22 K22; clear hK21 K21; clear hK20 K20; clear hK19 K19; clear hK18 K18; clear hK17 K17; clear hK16 K16; clear hK13 K13; clear hK12 K12; clear hK9 K9; clear hK8 K8; clear hK7 K7; clear hK5 K5; clear hK4 K4; clear hK2 K2; clear hK1 K1; clear hK0 K0; simp at *; done))
                                     | (
                                      refine SW.skip ?_
                                      refine hK23 _ _ _ ?_
                                      refine SW.seq_k fun K46 hK46 => ?_
                                      refine SW.wk (.var bq 73 [.int .i64 (room : Nat), .int .i64 last9, .slice aq9 m9 cq9] :: .row aq9 m9 cq9 80 13 (List.flatMap EnC (L9)) :: .var b51_0 47 [.int .i64 (room : Nat), .int .i64 last9, .slice aM9 m9 cM9] :: (G9 ++ H)) ?_ (hs := by obtain ⟨rfl, rfl, rfl, rfl, rfl, rfl, rfl, rfl, rfl⟩ := hN; (try subst hnm); exact SubL.by)
                                      refine SW.draw [(135, 0), (136, 1), (137, 2), (138, 3), (139, 4), (140, 5), (141, 6), (142, 7), (143, 8), (144, 9), (145, 10), (146, 11), (147, 12), (148, 13), (149, 14), (150, 15), (151, 16), (152, 17), (153, 18)] [[], [0], [], [2], [3, 2], [4, 3, 2], [5, 4, 3, 2], [1, 0, 6, 5, 4, 3, 2], [7, 1, 0, 6, 5, 4, 3, 2], [8, 7, 1, 0, 6, 5, 4, 3, 2], [9, 8, 7, 1, 0, 6, 5, 4, 3, 2], [10, 9, 8, 7, 1, 0, 6, 5, 4, 3, 2], [8, 7, 1, 0, 6, 5, 4, 3, 2], [12, 8, 7, 1, 0, 6, 5, 4, 3, 2], [13, 12, 8, 7, 1, 0, 6, 5, 4, 3, 2], [14, 13, 12, 8, 7, 1, 0, 6, 5, 4, 3, 2], [11, 10, 9, 8, 7, 1, 0, 6, 5, 4, 3, 2, 15, 14, 13, 12], [16, 11, 10, 9, 8, 7, 1, 0, 6, 5, 4, 3, 2, 15, 14, 13, 12], [8, 7, 1, 0, 6, 5, 4, 3, 2, 17, 16, 11, 10, 9, 15, 14, 13, 12]] mixed (by kernel_rfl) (by kernel_rfl) ?_
                                      refine RD.p T ?_
                                      refine RD.p T ?_
                                      refine RD.p T ?_
                                      refine RD.p T ?_
                                      refine RD.q rfl rfl (Gd.none rfl) (QV.v1 T) ?_
                                      refine RD.p T ?_
                                      refine RD.nv rfl rfl rfl (Gd.none rfl) ?_
                                      refine NV.call rfl rfl rfl fun13 rfl rfl (SC.wk (qlen bq (room : Nat) last9 aq9 m9 cq9 (H := .row aq9 m9 cq9 80 13 (List.flatMap EnC (L9)) :: .var b51_0 47 [.int .i64 (room : Nat), .int .i64 last9, .slice aM9 m9 cM9] :: (G9 ++ H)))) ?_
                                      rintro _ _ ⟨rfl, e⟩; obtain rfl := e.symm
                                      refine ⟨(Stab.cons rfl (Gd.none rfl) (pev_sound T rfl) (Stab.cons rfl (Gd.none rfl) (QV.v1 T) (Stab.cons rfl (Gd.none rfl) (pev_sound T rfl) (Stab.cons rfl (Gd.none rfl) (pev_sound T rfl) (Stab.cons rfl (Gd.none rfl) (pev_sound T rfl) Stab.nil))))), ?_⟩
                                      refine RD.p T ?_
                                      refine RD.p T ?_
                                      refine RD.split 8 rfl (fun hs8 => ?_) (fun hs8 => ?_)
                                      ·try simp only [decide_eq_true_eq, decide_eq_false_iff_not, Bool.not_eq_true', Bool.not_eq_false', Int.not_lt, Int.not_le, Int.toNat_natCast] at hs8
                                       first
                                        | (exfalso; first | omega | contradiction | (clear hK46 K46; clear hK43 K43; clear hK42 K42; clear hK41 K41; clear hK40 K40; clear hK34 K34; clear hK25 K25; clear hK24 K24; clear hK23 K23; clear hK22 K22; clear hK21 K21; clear hK20 K20; clear hK19 K19; clear hK18 K18; clear hK17 K17; clear hK16 K16; clear hK13 K13; clear hK12 K12; clear hK9 K9; clear hK8 K8; clear hK7 K7; clear hK5 K5; clear hK4 K4; clear hK2 K2; clear hK1 K1; clear hK0 K0; simp at *; done))
                                        | (
                                         refine RD.skip rfl rfl rfl rfl ?_
                                         refine RD.skip rfl rfl rfl rfl ?_
                                         refine RD.skip rfl rfl rfl rfl ?_
                                         refine RD.skip rfl rfl rfl rfl ?_
                                         refine RD.skip rfl rfl rfl rfl ?_
                                         refine RD.skipN rfl rfl rfl rfl rfl (Stab.skip rfl rfl rfl rfl (Stab.skip rfl rfl rfl rfl (Stab.skip rfl rfl rfl rfl (Stab.skip rfl rfl rfl rfl Stab.nil)))) ?_
                                         refine RD.skipN rfl rfl rfl rfl rfl (Stab.skip rfl rfl rfl rfl (Stab.skip rfl rfl rfl rfl (Stab.skip rfl rfl rfl rfl (Stab.skip rfl rfl rfl rfl Stab.nil)))) ?_
                                         refine RD.skipN rfl rfl rfl rfl rfl Stab.nil ?_
                                         refine RD.skip rfl rfl rfl rfl ?_
                                         refine RD.p T ?_
                                         refine RD.k rfl rfl ?_
                                         refine hK46 _ _ _ ?_
                                         refine SW.cond_t rfl ?_
                                         refine SW.seq_k fun K47 hK47 => ?_
                                         refine SW.region _ _ _ _ ?_
                                         refine RL.p T ?_
                                         refine RL.nil _ _ _ _ ?_
                                         refine hK47 _ _ _ ?_
                                         refine SW.ret ?_
                                         refine retQ.wk (H) ?_
                                         refine retQ.rr _ ?_ (hH := fun w hw => hw)
                                         clear hK47 K47 hK46 K46 hK43 K43 hK42 K42 hK41 K41 hK40 K40 hK34 K34 hK25 K25 hK24 K24 hK23 K23 hK22 K22 hK21 K21 hK20 K20 hK19 K19 hK18 K18 hK17 K17 hK16 K16 hK13 K13 hK12 K12 hK9 K9 hK8 K8 hK7 K7 hK5 K5 hK4 K4 hK2 K2 hK1 K1 hK0 K0
                                         first
                                           | exact ⟨rfl, rfl⟩
                                         )
                                      ·try simp only [decide_eq_true_eq, decide_eq_false_iff_not, Bool.not_eq_true', Bool.not_eq_false', Int.not_lt, Int.not_le, Int.toNat_natCast] at hs8
                                       first
                                        | (exfalso; first | omega | contradiction | (clear hK46 K46; clear hK43 K43; clear hK42 K42; clear hK41 K41; clear hK40 K40; clear hK34 K34; clear hK25 K25; clear hK24 K24; clear hK23 K23; clear hK22 K22; clear hK21 K21; clear hK20 K20; clear hK19 K19; clear hK18 K18; clear hK17 K17; clear hK16 K16; clear hK13 K13; clear hK12 K12; clear hK9 K9; clear hK8 K8; clear hK7 K7; clear hK5 K5; clear hK4 K4; clear hK2 K2; clear hK1 K1; clear hK0 K0; simp at *; done))
                                        | (
                                         refine RD.p T ?_
                                         refine RD.p T ?_
                                         refine RD.p T ?_
                                         refine RD.p T ?_
                                         refine RD.q rfl rfl (Gd.yes rfl rfl) (QV.v1 T) ?_
                                         refine RD.nv rfl rfl rfl (Gd.yes rfl rfl) ?_
                                         refine NV.call rfl rfl rfl fun26 rfl rfl (SC.wk (qall bq (room : Nat) last9 aq9 m9 cq9 L9 h9a (by omega) (fun q hq => (h9e.qi.fs q hq).sub SubL.by) (H := .var b51_0 47 [.int .i64 (room : Nat), .int .i64 last9, .slice aM9 m9 cM9] :: (G9 ++ H)))) ?_
                                         rintro _ _ ⟨oa, oc, out, S2, G2, rfl, hol, hpm, hst, hop, hog, e⟩; obtain rfl := e.symm
                                         refine ⟨(Stab.cons rfl (Gd.yes rfl rfl) (QV.v1 T) (Stab.cons rfl (Gd.yes rfl rfl) (pev_sound T rfl) (Stab.cons rfl (Gd.yes rfl rfl) (pev_sound T rfl) (Stab.cons rfl (Gd.yes rfl rfl) (pev_sound T rfl) Stab.nil)))), ?_⟩
                                         refine RD.nv rfl rfl rfl (Gd.yes rfl rfl) ?_
                                         refine NV.sat (fun hs => ?_) (fun c hc => by cases hc)
                                         refine NV.call rfl rfl rfl fun25 rfl rfl (items oa m9 oc out (Rd.rowh hs (by repeat first | exact At.head _ _ | apply At.tail | apply At.app)) hol.symm (by omega)) ?_
                                         rintro _ _ ⟨ia, ic, rfl, e⟩; obtain rfl := e.symm
                                         refine ⟨(Stab.cons rfl (Gd.yes rfl rfl) (QV.v1 T) (Stab.cons rfl (Gd.yes rfl rfl) (pev_sound T rfl) (Stab.cons rfl (Gd.yes rfl rfl) (pev_sound T rfl) (Stab.cons rfl (Gd.yes rfl rfl) (pev_sound T rfl) Stab.nil)))), ?_⟩
                                         refine RD.nv rfl rfl rfl (Gd.yes rfl rfl) ?_
                                         refine NV.sat (fun hs => ?_) (fun c hc => by cases hc)
                                         refine NV.call rfl rfl rfl fun24 rfl rfl (sames out M9 ia aM9 m9 ic m9 cM9 (Rd.rowh hs (by repeat first | exact At.head _ _ | apply At.tail | apply At.app)) (rdO h9f SubL.by) hol.symm (by omega) (by omega) (by omega) (fun i hi => (hog i hi).sub SubL.by) (fun i hi => (h9e.ok i hi).sub SubL.by) (h9e.all hpm hst hop)) ?_
                                         rintro _ _ ⟨rfl, e⟩; obtain rfl := e.symm
                                         refine ⟨Stab.nil, ?_⟩
                                         refine RD.p T ?_
                                         refine RD.p T ?_
                                         refine RD.k rfl rfl ?_
                                         refine hK46 _ _ _ ?_
                                         refine SW.cs (fun hc13 => ?_) (fun hc13 => ?_)
                                         ·skip
                                          first
                                           | (exfalso; first | omega | contradiction | (clear hK46 K46; clear hK43 K43; clear hK42 K42; clear hK41 K41; clear hK40 K40; clear hK34 K34; clear hK25 K25; clear hK24 K24; clear hK23 K23; clear hK22 K22; clear hK21 K21; clear hK20 K20; clear hK19 K19; clear hK18 K18; clear hK17 K17; clear hK16 K16; clear hK13 K13; clear hK12 K12; clear hK9 K9; clear hK8 K8; clear hK7 K7; clear hK5 K5; clear hK4 K4; clear hK2 K2; clear hK1 K1; clear hK0 K0; simp at *; done))
                                           | (
                                            refine SW.seq_k fun K48 hK48 => ?_
                                            refine SW.region _ _ _ _ ?_
                                            refine RL.p T ?_
                                            refine RL.nil _ _ _ _ ?_
                                            refine hK48 _ _ _ ?_
                                            refine SW.ret ?_
                                            refine retQ.wk (H) ?_
                                            refine retQ.rr _ ?_ (hH := fun w hw => hw)
                                            clear hK48 K48 hK46 K46 hK43 K43 hK42 K42 hK41 K41 hK40 K40 hK34 K34 hK25 K25 hK24 K24 hK23 K23 hK22 K22 hK21 K21 hK20 K20 hK19 K19 hK18 K18 hK17 K17 hK16 K16 hK13 K13 hK12 K12 hK9 K9 hK8 K8 hK7 K7 hK5 K5 hK4 K4 hK2 K2 hK1 K1 hK0 K0
                                            first
                                              | exact ⟨rfl, rfl⟩
                                            )
                                         ·skip
                                          first
                                           | (exfalso; first | omega | contradiction | (clear hK46 K46; clear hK43 K43; clear hK42 K42; clear hK41 K41; clear hK40 K40; clear hK34 K34; clear hK25 K25; clear hK24 K24; clear hK23 K23; clear hK22 K22; clear hK21 K21; clear hK20 K20; clear hK19 K19; clear hK18 K18; clear hK17 K17; clear hK16 K16; clear hK13 K13; clear hK12 K12; clear hK9 K9; clear hK8 K8; clear hK7 K7; clear hK5 K5; clear hK4 K4; clear hK2 K2; clear hK1 K1; clear hK0 K0; simp at *; done))
                                           | (
                                            refine SW.skip ?_
                                            refine hK21 _ _ _ ?_
                                            refine SW.wk (.var bq 73 [.int .i64 (room : Nat), .int .i64 last9, .slice aq9 m9 cq9] :: .row aq9 m9 cq9 80 13 (List.flatMap EnC (L9)) :: .var b51_0 47 [.int .i64 (room : Nat), .int .i64 last9, .slice aM9 m9 cM9] :: (G9 ++ H)) ?_
                                            refine SW.region _ _ _ _ ?_
                                            first | refine RL.ar ?_ | refine RL.p T ?_
                                            refine RL.p T ?_
                                            refine RL.nil _ _ _ _ ?_
                                            exact ⟨nr - (k + 1), (by omega), k + 1, last9, m9, aq9, cq9, aM9, cM9, L9, M9, G9, (by rfl), ⟨by omega, ⟨h9a, h9b, h9c, by omega, h9e, h9f⟩⟩, (.cons rfl (.nil (by repeat first | with_reducible exact Mx.refl | with_reducible exact Mx.mix | refine Mx.put rfl ?_ | refine Mx.upd rfl ?_ | refine Mx.updl rfl ?_ | refine Mx.fin rfl ?_ | refine Mx.inner rfl ?_ | refine Mx.none ?_ | exact Mx.refl | exact Mx.mix))), rfl, rfl⟩
                                            )
                                         )
                                      )
                                   )
                                )
                             ·skip
                              first
                               | (exfalso; first | omega | contradiction | (clear hK40 K40; clear hK34 K34; clear hK25 K25; clear hK24 K24; clear hK23 K23; clear hK22 K22; clear hK21 K21; clear hK20 K20; clear hK19 K19; clear hK18 K18; clear hK17 K17; clear hK16 K16; clear hK13 K13; clear hK12 K12; clear hK9 K9; clear hK8 K8; clear hK7 K7; clear hK5 K5; clear hK4 K4; clear hK2 K2; clear hK1 K1; clear hK0 K0; simp at *; done))
                               | (
                                refine SW.seq_k fun K49 hK49 => ?_
                                refine SW.region _ _ _ _ ?_
                                refine RL.p T ?_
                                refine RL.p T ?_
                                refine RL.q (QV.vN T rfl rfl rfl rfl rfl (by exact (rfl : _ = [_, _, _, _, _, _, _, _, _, _, _]))) ?_
                                refine RL.c fun11 (fun hs => SC.wk (putU bq (room : Nat) last aq m cq L hLm (by omega) (ls.getD k default).x hx (by omega) (by omega) (H := .var b51_0 47 [.int .i64 (room : Nat), .int .i64 last, .slice aM m cM] :: .var b9_1 49 (QaC (ls.getD k default)) :: (G ++ H)))) ?_
                                rintro _ _ ⟨no, er, last1, aq1, m1, cq1, L1, D1, rfl, e, hm1, hlin, hL1⟩; obtain rfl := e.symm
                                refine RL.p T ?_
                                refine RL.p T ?_
                                refine RL.p T ?_
                                refine RL.p T ?_
                                refine RL.p T ?_
                                refine RL.nil _ _ _ _ ?_
                                refine hK49 _ _ _ ?_
                                refine SW.seq_k fun K50 hK50 => ?_
                                refine SW.region _ _ _ _ ?_
                                refine RL.p T ?_
                                refine RL.p T ?_
                                refine RL.q (QV.vN T rfl rfl rfl rfl rfl (by exact (rfl : _ = [_, _, _, _, _, _, _, _, _, _, _]))) ?_
                                refine RL.c fun23 (fun hs => SC.wk (rputV b51_0 (room : Nat) last aM m cM M (rdO hRd SubL.by) (by omega) (by omega) (ls.getD k default).x hx (by omega) (by omega) (by omega) (fun y hy => (hQ.ok y hy).sub SubL.by) hQ.chk (H := .var bq 73 [.int .i64 (room : Nat), .int .i64 last1, .slice aq1 m1 cq1] :: .row aq1 m1 cq1 80 13 (List.flatMap EnC (L1)) :: (D1 ++ (.var b9_1 49 (QaC (ls.getD k default)) :: (G ++ H)))))) ?_
                                rintro _ _ ⟨no2, er2, lastM, aM1, nM, cM1, M1, D2, rfl, e, hnM, hRf, hlin2, hMo⟩; obtain rfl := e.symm
                                obtain ⟨q1, q2, q3, q4⟩ := put_same hlin hlin2
                                subst q1 q2 q3 q4
                                refine RL.p T ?_
                                refine RL.p T ?_
                                refine RL.p T ?_
                                refine RL.p T ?_
                                refine RL.p T ?_
                                refine RL.nil _ _ _ _ ?_
                                refine hK50 _ _ _ ?_
                                refine SW.seq_k fun K51 hK51 => ?_
                                obtain ⟨aq9, cq9, last9, aM9, cM9, m9, L9, M9, G9, hN⟩ : ∃ (aq9 : Option Addr) (cq9 : Nat) (last9 : Int) (aM9 : Option Addr) (cM9 m9 : Nat) (L9 : List En) (M9 : List It) (G9 : List Chunk), aq9 = aq1 ∧ cq9 = cq1 ∧ last9 = last1 ∧ aM9 = aM1 ∧ cM9 = cM1 ∧ m9 = m1 ∧ L9 = L1 ∧ M9 = M1 ∧ G9 = D2 ++ (D1 ++ G) := ⟨_, _, _, _, _, _, _, _, _, rfl, rfl, rfl, rfl, rfl, rfl, rfl, rfl, rfl⟩
                                obtain ⟨h9a, h9b, h9c, h9d, h9e, h9f⟩ : m9 = L9.length ∧ m9 ≤ 64 ∧ 0 ≤ last9 ∧ last9 ≤ (k : Nat) + 1 ∧ QR w0 L9 last9 G9 M9 ∧ Rd w0 G9 aM9 m9 cM9 12 (M9.flatMap ItC) := by
                                  obtain ⟨rfl, rfl, rfl, rfl, rfl, rfl, rfl, rfl, rfl⟩ := hN
                                  exact ⟨hm1, by omega, by omega, by omega, hQ.put hl0 hLm hlin hL1 rfl hMo, hRf _ hRd.app⟩
                                have h9g := h9e.len
                                refine SW.region _ _ _ _ ?_
                                refine RL.p T ?_
                                refine RL.p T ?_
                                refine RL.p T ?_
                                refine RL.p T ?_
                                refine RL.sp 77 (fun hs9 => ?_) (fun hs9 => ?_)
                                ·skip
                                 first
                                  | (exfalso; first | omega | contradiction | (clear hK51 K51; clear hK50 K50; clear hK49 K49; clear hK40 K40; clear hK34 K34; clear hK25 K25; clear hK24 K24; clear hK23 K23; clear hK22 K22; clear hK21 K21; clear hK20 K20; clear hK19 K19; clear hK18 K18; clear hK17 K17; clear hK16 K16; clear hK13 K13; clear hK12 K12; clear hK9 K9; clear hK8 K8; clear hK7 K7; clear hK5 K5; clear hK4 K4; clear hK2 K2; clear hK1 K1; clear hK0 K0; simp at *; done))
                                  | (
                                   refine RL.guard_no rfl rfl rfl ?_
                                   refine RL.guard_no rfl rfl rfl ?_
                                   refine RL.guard_no rfl rfl rfl ?_
                                   refine RL.p T ?_
                                   refine RL.nil _ _ _ _ ?_
                                   refine hK51 _ _ _ ?_
                                   refine SW.cond_t rfl ?_
                                   refine SW.seq_k fun K52 hK52 => ?_
                                   refine SW.region _ _ _ _ ?_
                                   refine RL.p T ?_
                                   refine RL.nil _ _ _ _ ?_
                                   refine hK52 _ _ _ ?_
                                   refine SW.ret ?_
                                   refine retQ.wk (H) ?_
                                   refine retQ.rr _ ?_ (hH := fun w hw => hw)
                                   clear hK52 K52 hK51 K51 hK50 K50 hK49 K49 hK40 K40 hK34 K34 hK25 K25 hK24 K24 hK23 K23 hK22 K22 hK21 K21 hK20 K20 hK19 K19 hK18 K18 hK17 K17 hK16 K16 hK13 K13 hK12 K12 hK9 K9 hK8 K8 hK7 K7 hK5 K5 hK4 K4 hK2 K2 hK1 K1 hK0 K0
                                   first
                                     | exact ⟨rfl, rfl⟩
                                   )
                                ·skip
                                 first
                                  | (exfalso; first | omega | contradiction | (clear hK51 K51; clear hK50 K50; clear hK49 K49; clear hK40 K40; clear hK34 K34; clear hK25 K25; clear hK24 K24; clear hK23 K23; clear hK22 K22; clear hK21 K21; clear hK20 K20; clear hK19 K19; clear hK18 K18; clear hK17 K17; clear hK16 K16; clear hK13 K13; clear hK12 K12; clear hK9 K9; clear hK8 K8; clear hK7 K7; clear hK5 K5; clear hK4 K4; clear hK2 K2; clear hK1 K1; clear hK0 K0; simp at *; done))
                                  | (
                                   refine RL.p T ?_
                                   refine RL.p T ?_
                                   refine RL.p T ?_
                                   refine RL.p T ?_
                                   refine RL.nil _ _ _ _ ?_
                                   refine hK51 _ _ _ ?_
                                   refine SW.cs (fun hc14 => ?_) (fun hc14 => ?_)
                                   ·skip
                                    first
                                     | (exfalso; first | omega | contradiction | (clear hK51 K51; clear hK50 K50; clear hK49 K49; clear hK40 K40; clear hK34 K34; clear hK25 K25; clear hK24 K24; clear hK23 K23; clear hK22 K22; clear hK21 K21; clear hK20 K20; clear hK19 K19; clear hK18 K18; clear hK17 K17; clear hK16 K16; clear hK13 K13; clear hK12 K12; clear hK9 K9; clear hK8 K8; clear hK7 K7; clear hK5 K5; clear hK4 K4; clear hK2 K2; clear hK1 K1; clear hK0 K0; simp at *; done))
                                     | (
                                      refine SW.seq_k fun K53 hK53 => ?_
                                      refine SW.region _ _ _ _ ?_
                                      refine RL.p T ?_
                                      refine RL.nil _ _ _ _ ?_
                                      refine hK53 _ _ _ ?_
                                      refine SW.ret ?_
                                      refine retQ.wk (H) ?_
                                      refine retQ.rr _ ?_ (hH := fun w hw => hw)
                                      clear hK53 K53 hK51 K51 hK50 K50 hK49 K49 hK40 K40 hK34 K34 hK25 K25 hK24 K24 hK23 K23 hK22 K22 hK21 K21 hK20 K20 hK19 K19 hK18 K18 hK17 K17 hK16 K16 hK13 K13 hK12 K12 hK9 K9 hK8 K8 hK7 K7 hK5 K5 hK4 K4 hK2 K2 hK1 K1 hK0 K0
                                      first
                                        | exact ⟨rfl, rfl⟩
                                      )
                                   ·skip
                                    first
                                     | (exfalso; first | omega | contradiction | (clear hK51 K51; clear hK50 K50; clear hK49 K49; clear hK40 K40; clear hK34 K34; clear hK25 K25; clear hK24 K24; clear hK23 K23; clear hK22 K22; clear hK21 K21; clear hK20 K20; clear hK19 K19; clear hK18 K18; clear hK17 K17; clear hK16 K16; clear hK13 K13; clear hK12 K12; clear hK9 K9; clear hK8 K8; clear hK7 K7; clear hK5 K5; clear hK4 K4; clear hK2 K2; clear hK1 K1; clear hK0 K0; simp at *; done))
                                     | (
                                      refine SW.skip ?_
                                      refine hK23 _ _ _ ?_
                                      refine SW.seq_k fun K54 hK54 => ?_
                                      refine SW.wk (.var bq 73 [.int .i64 (room : Nat), .int .i64 last9, .slice aq9 m9 cq9] :: .row aq9 m9 cq9 80 13 (List.flatMap EnC (L9)) :: .var b51_0 47 [.int .i64 (room : Nat), .int .i64 last9, .slice aM9 m9 cM9] :: (G9 ++ H)) ?_ (hs := by obtain ⟨rfl, rfl, rfl, rfl, rfl, rfl, rfl, rfl, rfl⟩ := hN; (try subst hnm); exact SubL.by)
                                      refine SW.draw [(135, 0), (136, 1), (137, 2), (138, 3), (139, 4), (140, 5), (141, 6), (142, 7), (143, 8), (144, 9), (145, 10), (146, 11), (147, 12), (148, 13), (149, 14), (150, 15), (151, 16), (152, 17), (153, 18)] [[], [0], [], [2], [3, 2], [4, 3, 2], [5, 4, 3, 2], [1, 0, 6, 5, 4, 3, 2], [7, 1, 0, 6, 5, 4, 3, 2], [8, 7, 1, 0, 6, 5, 4, 3, 2], [9, 8, 7, 1, 0, 6, 5, 4, 3, 2], [10, 9, 8, 7, 1, 0, 6, 5, 4, 3, 2], [8, 7, 1, 0, 6, 5, 4, 3, 2], [12, 8, 7, 1, 0, 6, 5, 4, 3, 2], [13, 12, 8, 7, 1, 0, 6, 5, 4, 3, 2], [14, 13, 12, 8, 7, 1, 0, 6, 5, 4, 3, 2], [11, 10, 9, 8, 7, 1, 0, 6, 5, 4, 3, 2, 15, 14, 13, 12], [16, 11, 10, 9, 8, 7, 1, 0, 6, 5, 4, 3, 2, 15, 14, 13, 12], [8, 7, 1, 0, 6, 5, 4, 3, 2, 17, 16, 11, 10, 9, 15, 14, 13, 12]] mixed (by kernel_rfl) (by kernel_rfl) ?_
                                      refine RD.p T ?_
                                      refine RD.p T ?_
                                      refine RD.p T ?_
                                      refine RD.p T ?_
                                      refine RD.q rfl rfl (Gd.none rfl) (QV.v1 T) ?_
                                      refine RD.p T ?_
                                      refine RD.nv rfl rfl rfl (Gd.none rfl) ?_
                                      refine NV.call rfl rfl rfl fun13 rfl rfl (SC.wk (qlen bq (room : Nat) last9 aq9 m9 cq9 (H := .row aq9 m9 cq9 80 13 (List.flatMap EnC (L9)) :: .var b51_0 47 [.int .i64 (room : Nat), .int .i64 last9, .slice aM9 m9 cM9] :: (G9 ++ H)))) ?_
                                      rintro _ _ ⟨rfl, e⟩; obtain rfl := e.symm
                                      refine ⟨(Stab.cons rfl (Gd.none rfl) (pev_sound T rfl) (Stab.cons rfl (Gd.none rfl) (QV.v1 T) (Stab.cons rfl (Gd.none rfl) (pev_sound T rfl) (Stab.cons rfl (Gd.none rfl) (pev_sound T rfl) (Stab.cons rfl (Gd.none rfl) (pev_sound T rfl) Stab.nil))))), ?_⟩
                                      refine RD.p T ?_
                                      refine RD.p T ?_
                                      refine RD.split 8 rfl (fun hs10 => ?_) (fun hs10 => ?_)
                                      ·try simp only [decide_eq_true_eq, decide_eq_false_iff_not, Bool.not_eq_true', Bool.not_eq_false', Int.not_lt, Int.not_le, Int.toNat_natCast] at hs10
                                       first
                                        | (exfalso; first | omega | contradiction | (clear hK54 K54; clear hK51 K51; clear hK50 K50; clear hK49 K49; clear hK40 K40; clear hK34 K34; clear hK25 K25; clear hK24 K24; clear hK23 K23; clear hK22 K22; clear hK21 K21; clear hK20 K20; clear hK19 K19; clear hK18 K18; clear hK17 K17; clear hK16 K16; clear hK13 K13; clear hK12 K12; clear hK9 K9; clear hK8 K8; clear hK7 K7; clear hK5 K5; clear hK4 K4; clear hK2 K2; clear hK1 K1; clear hK0 K0; simp at *; done))
                                        | (
                                         refine RD.skip rfl rfl rfl rfl ?_
                                         refine RD.skip rfl rfl rfl rfl ?_
                                         refine RD.skip rfl rfl rfl rfl ?_
                                         refine RD.skip rfl rfl rfl rfl ?_
                                         refine RD.skip rfl rfl rfl rfl ?_
                                         refine RD.skipN rfl rfl rfl rfl rfl (Stab.skip rfl rfl rfl rfl (Stab.skip rfl rfl rfl rfl (Stab.skip rfl rfl rfl rfl (Stab.skip rfl rfl rfl rfl Stab.nil)))) ?_
                                         refine RD.skipN rfl rfl rfl rfl rfl (Stab.skip rfl rfl rfl rfl (Stab.skip rfl rfl rfl rfl (Stab.skip rfl rfl rfl rfl (Stab.skip rfl rfl rfl rfl Stab.nil)))) ?_
                                         refine RD.skipN rfl rfl rfl rfl rfl Stab.nil ?_
                                         refine RD.skip rfl rfl rfl rfl ?_
                                         refine RD.p T ?_
                                         refine RD.k rfl rfl ?_
                                         refine hK54 _ _ _ ?_
                                         refine SW.cond_t rfl ?_
                                         refine SW.seq_k fun K55 hK55 => ?_
                                         refine SW.region _ _ _ _ ?_
                                         refine RL.p T ?_
                                         refine RL.nil _ _ _ _ ?_
                                         refine hK55 _ _ _ ?_
                                         refine SW.ret ?_
                                         refine retQ.wk (H) ?_
                                         refine retQ.rr _ ?_ (hH := fun w hw => hw)
                                         clear hK55 K55 hK54 K54 hK51 K51 hK50 K50 hK49 K49 hK40 K40 hK34 K34 hK25 K25 hK24 K24 hK23 K23 hK22 K22 hK21 K21 hK20 K20 hK19 K19 hK18 K18 hK17 K17 hK16 K16 hK13 K13 hK12 K12 hK9 K9 hK8 K8 hK7 K7 hK5 K5 hK4 K4 hK2 K2 hK1 K1 hK0 K0
                                         first
                                           | exact ⟨rfl, rfl⟩
                                         )
                                      ·try simp only [decide_eq_true_eq, decide_eq_false_iff_not, Bool.not_eq_true', Bool.not_eq_false', Int.not_lt, Int.not_le, Int.toNat_natCast] at hs10
                                       first
                                        | (exfalso; first | omega | contradiction | (clear hK54 K54; clear hK51 K51; clear hK50 K50; clear hK49 K49; clear hK40 K40; clear hK34 K34; clear hK25 K25; clear hK24 K24; clear hK23 K23; clear hK22 K22; clear hK21 K21; clear hK20 K20; clear hK19 K19; clear hK18 K18; clear hK17 K17; clear hK16 K16; clear hK13 K13; clear hK12 K12; clear hK9 K9; clear hK8 K8; clear hK7 K7; clear hK5 K5; clear hK4 K4; clear hK2 K2; clear hK1 K1; clear hK0 K0; simp at *; done))
                                        | (
                                         refine RD.p T ?_
                                         refine RD.p T ?_
                                         refine RD.p T ?_
                                         refine RD.p T ?_
                                         refine RD.q rfl rfl (Gd.yes rfl rfl) (QV.v1 T) ?_
                                         refine RD.nv rfl rfl rfl (Gd.yes rfl rfl) ?_
                                         refine NV.call rfl rfl rfl fun26 rfl rfl (SC.wk (qall bq (room : Nat) last9 aq9 m9 cq9 L9 h9a (by omega) (fun q hq => (h9e.qi.fs q hq).sub SubL.by) (H := .var b51_0 47 [.int .i64 (room : Nat), .int .i64 last9, .slice aM9 m9 cM9] :: (G9 ++ H)))) ?_
                                         rintro _ _ ⟨oa, oc, out, S2, G2, rfl, hol, hpm, hst, hop, hog, e⟩; obtain rfl := e.symm
                                         refine ⟨(Stab.cons rfl (Gd.yes rfl rfl) (QV.v1 T) (Stab.cons rfl (Gd.yes rfl rfl) (pev_sound T rfl) (Stab.cons rfl (Gd.yes rfl rfl) (pev_sound T rfl) (Stab.cons rfl (Gd.yes rfl rfl) (pev_sound T rfl) Stab.nil)))), ?_⟩
                                         refine RD.nv rfl rfl rfl (Gd.yes rfl rfl) ?_
                                         refine NV.sat (fun hs => ?_) (fun c hc => by cases hc)
                                         refine NV.call rfl rfl rfl fun25 rfl rfl (items oa m9 oc out (Rd.rowh hs (by repeat first | exact At.head _ _ | apply At.tail | apply At.app)) hol.symm (by omega)) ?_
                                         rintro _ _ ⟨ia, ic, rfl, e⟩; obtain rfl := e.symm
                                         refine ⟨(Stab.cons rfl (Gd.yes rfl rfl) (QV.v1 T) (Stab.cons rfl (Gd.yes rfl rfl) (pev_sound T rfl) (Stab.cons rfl (Gd.yes rfl rfl) (pev_sound T rfl) (Stab.cons rfl (Gd.yes rfl rfl) (pev_sound T rfl) Stab.nil)))), ?_⟩
                                         refine RD.nv rfl rfl rfl (Gd.yes rfl rfl) ?_
                                         refine NV.sat (fun hs => ?_) (fun c hc => by cases hc)
                                         refine NV.call rfl rfl rfl fun24 rfl rfl (sames out M9 ia aM9 m9 ic m9 cM9 (Rd.rowh hs (by repeat first | exact At.head _ _ | apply At.tail | apply At.app)) (rdO h9f SubL.by) hol.symm (by omega) (by omega) (by omega) (fun i hi => (hog i hi).sub SubL.by) (fun i hi => (h9e.ok i hi).sub SubL.by) (h9e.all hpm hst hop)) ?_
                                         rintro _ _ ⟨rfl, e⟩; obtain rfl := e.symm
                                         refine ⟨Stab.nil, ?_⟩
                                         refine RD.p T ?_
                                         refine RD.p T ?_
                                         refine RD.k rfl rfl ?_
                                         refine hK54 _ _ _ ?_
                                         refine SW.cs (fun hc15 => ?_) (fun hc15 => ?_)
                                         ·skip
                                          first
                                           | (exfalso; first | omega | contradiction | (clear hK54 K54; clear hK51 K51; clear hK50 K50; clear hK49 K49; clear hK40 K40; clear hK34 K34; clear hK25 K25; clear hK24 K24; clear hK23 K23; clear hK22 K22; clear hK21 K21; clear hK20 K20; clear hK19 K19; clear hK18 K18; clear hK17 K17; clear hK16 K16; clear hK13 K13; clear hK12 K12; clear hK9 K9; clear hK8 K8; clear hK7 K7; clear hK5 K5; clear hK4 K4; clear hK2 K2; clear hK1 K1; clear hK0 K0; simp at *; done))
                                           | (
                                            refine SW.seq_k fun K56 hK56 => ?_
                                            refine SW.region _ _ _ _ ?_
                                            refine RL.p T ?_
                                            refine RL.nil _ _ _ _ ?_
                                            refine hK56 _ _ _ ?_
                                            refine SW.ret ?_
                                            refine retQ.wk (H) ?_
                                            refine retQ.rr _ ?_ (hH := fun w hw => hw)
                                            clear hK56 K56 hK54 K54 hK51 K51 hK50 K50 hK49 K49 hK40 K40 hK34 K34 hK25 K25 hK24 K24 hK23 K23 hK22 K22 hK21 K21 hK20 K20 hK19 K19 hK18 K18 hK17 K17 hK16 K16 hK13 K13 hK12 K12 hK9 K9 hK8 K8 hK7 K7 hK5 K5 hK4 K4 hK2 K2 hK1 K1 hK0 K0
                                            first
                                              | exact ⟨rfl, rfl⟩
                                            )
                                         ·skip
                                          first
                                           | (exfalso; first | omega | contradiction | (clear hK54 K54; clear hK51 K51; clear hK50 K50; clear hK49 K49; clear hK40 K40; clear hK34 K34; clear hK25 K25; clear hK24 K24; clear hK23 K23; clear hK22 K22; clear hK21 K21; clear hK20 K20; clear hK19 K19; clear hK18 K18; clear hK17 K17; clear hK16 K16; clear hK13 K13; clear hK12 K12; clear hK9 K9; clear hK8 K8; clear hK7 K7; clear hK5 K5; clear hK4 K4; clear hK2 K2; clear hK1 K1; clear hK0 K0; simp at *; done))
                                           | (
                                            refine SW.skip ?_
                                            refine hK21 _ _ _ ?_
                                            refine SW.wk (.var bq 73 [.int .i64 (room : Nat), .int .i64 last9, .slice aq9 m9 cq9] :: .row aq9 m9 cq9 80 13 (List.flatMap EnC (L9)) :: .var b51_0 47 [.int .i64 (room : Nat), .int .i64 last9, .slice aM9 m9 cM9] :: (G9 ++ H)) ?_
                                            refine SW.region _ _ _ _ ?_
                                            first | refine RL.ar ?_ | refine RL.p T ?_
                                            refine RL.p T ?_
                                            refine RL.nil _ _ _ _ ?_
                                            exact ⟨nr - (k + 1), (by omega), k + 1, last9, m9, aq9, cq9, aM9, cM9, L9, M9, G9, (by rfl), ⟨by omega, ⟨h9a, h9b, h9c, by omega, h9e, h9f⟩⟩, (.cons rfl (.nil (by repeat first | with_reducible exact Mx.refl | with_reducible exact Mx.mix | refine Mx.put rfl ?_ | refine Mx.upd rfl ?_ | refine Mx.updl rfl ?_ | refine Mx.fin rfl ?_ | refine Mx.inner rfl ?_ | refine Mx.none ?_ | exact Mx.refl | exact Mx.mix))), rfl, rfl⟩
                                            )
                                         )
                                      )
                                   )
                                )
                             )
                          )
                       )
                    ·skip
                     first
                      | (exfalso; first | omega | contradiction | (clear hK20 K20; clear hK19 K19; clear hK18 K18; clear hK17 K17; clear hK16 K16; clear hK13 K13; clear hK12 K12; clear hK9 K9; clear hK8 K8; clear hK7 K7; clear hK5 K5; clear hK4 K4; clear hK2 K2; clear hK1 K1; clear hK0 K0; simp at *; done))
                      | (
                       refine SW.exit ?_
                       refine hK17 _ _ _ ?_
                       refine SW.seq_k fun K57 hK57 => ?_
                       refine SW.region _ _ _ _ ?_
                       refine RL.p T ?_
                       refine RL.nil _ _ _ _ ?_
                       refine hK57 _ _ _ ?_
                       refine SW.ret ?_
                       refine retQ.wk (H) ?_
                       refine retQ.rr _ ?_ (hH := fun w hw => hw)
                       clear hK57 K57 hK20 K20 hK19 K19 hK18 K18 hK17 K17 hK16 K16 hK13 K13 hK12 K12 hK9 K9 hK8 K8 hK7 K7 hK5 K5 hK4 K4 hK2 K2 hK1 K1 hK0 K0
                       first
                         | exact ⟨rfl, rfl⟩
                       )
                   )
                )
             )
          )
       )
    )
theorem queueActs_bad {w0 : World} {H : List Chunk} (room : Int) (hr : room < 0 ∨ 64 < room) (ls : List Qa) (sr : Option Addr) (nr cr : Nat) (hB : ∀ H, Rd w0 H sr nr cr 13 (ls.flatMap QaC)) (hnr : nr = ls.length) (hmr : nr ≤ 4398046511000) (hls : ∀ H, ∀ y ∈ ls, FsOk w0 H y.x) : SC Try.prog w0 4 #[.int .i64 room, .slice sr nr cr] H (fun v H' => v = .bool true ∧ H' = H) := by
 refine SC.enter Try.func4 rfl (Nat.le_of_ble_eq_true rfl) ?_
 refine SW.seq_k fun K0 hK0 => ?_
 refine SW.region _ _ _ _ ?_
 refine RL.p T ?_
 refine RL.nil _ _ _ _ ?_
 refine hK0 _ _ _ ?_
 refine SW.seq_k fun K1 hK1 => ?_
 refine SW.seq_k fun K2 hK2 => ?_
 refine SW.region _ _ _ _ ?_
 refine RL.c fun9 (fun hs => alive) ?_
 rintro _ _ ⟨rfl, e⟩; obtain rfl := e.symm
 refine RL.p T ?_
 refine RL.nil _ _ _ _ ?_
 refine hK2 _ _ _ ?_
 refine SW.cs (fun hc0 => ?_) (fun hc0 => ?_)
 ·skip
  first
   | (exfalso; first | omega | contradiction | (clear hK2 K2; clear hK1 K1; clear hK0 K0; simp at *; done))
   | (
    refine SW.seq_k fun K3 hK3 => ?_
    refine SW.region _ _ _ _ ?_
    refine RL.p T ?_
    refine RL.nil _ _ _ _ ?_
    refine hK3 _ _ _ ?_
    refine SW.ret ?_
    refine retQ.rr (H) ?_
    clear hK3 K3 hK2 K2 hK1 K1 hK0 K0
    first
      | exact ⟨rfl, rfl⟩
    )
 ·skip
  first
   | (exfalso; first | omega | contradiction | (clear hK2 K2; clear hK1 K1; clear hK0 K0; simp at *; done))
   | (
    refine SW.skip ?_
    refine hK1 _ _ _ ?_
    refine SW.seq_k fun K4 hK4 => ?_
    refine SW.seq_k fun K5 hK5 => ?_
    refine SW.region _ _ _ _ ?_
    refine RL.p T ?_
    refine RL.c fun16 (fun hs => great ls sr nr cr hB hnr hmr) ?_
    rintro _ _ ⟨gt, rfl, hgt, e⟩; obtain rfl := e.symm
    refine RL.nil _ _ _ _ ?_
    refine hK5 _ _ _ ?_
    refine SW.cs (fun hc1 => ?_) (fun hc1 => ?_)
    ·skip
     first
      | (exfalso; first | omega | contradiction | (clear hK5 K5; clear hK4 K4; clear hK2 K2; clear hK1 K1; clear hK0 K0; simp at *; done))
      | (
       refine SW.seq_k fun K6 hK6 => ?_
       refine SW.region _ _ _ _ ?_
       refine RL.p T ?_
       refine RL.nil _ _ _ _ ?_
       refine hK6 _ _ _ ?_
       refine SW.ret ?_
       refine retQ.rr (H) ?_
       clear hK6 K6 hK5 K5 hK4 K4 hK2 K2 hK1 K1 hK0 K0
       first
         | exact ⟨rfl, rfl⟩
       )
    ·skip
     first
      | (exfalso; first | omega | contradiction | (clear hK5 K5; clear hK4 K4; clear hK2 K2; clear hK1 K1; clear hK0 K0; simp at *; done))
      | (
       refine SW.skip ?_
       refine hK4 _ _ _ ?_
       refine SW.seq_k fun K7 hK7 => ?_
       refine SW.region _ _ _ _ ?_
       refine RL.p T ?_
       refine RL.c fun10 (fun hs => qnew_bad room hr) ?_
       rintro _ _ ⟨rfl, e⟩; obtain rfl := e.symm
       refine RL.p T ?_
       refine RL.p T ?_
       refine RL.p T ?_
       refine RL.p T ?_
       refine RL.p T ?_
       refine RL.nil _ _ _ _ ?_
       refine hK7 _ _ _ ?_
       refine SW.seq_k fun K8 hK8 => ?_
       refine SW.seq_k fun K9 hK9 => ?_
       refine SW.region _ _ _ _ ?_
       refine RL.p T ?_
       refine RL.p T ?_
       refine RL.p T ?_
       refine RL.sp 33 (fun hs0 => ?_) (fun hs0 => ?_)
       ·skip
        first
         | (exfalso; first | omega | contradiction | (clear hK9 K9; clear hK8 K8; clear hK7 K7; clear hK5 K5; clear hK4 K4; clear hK2 K2; clear hK1 K1; clear hK0 K0; simp at *; done))
         | (
          refine RL.guard_no rfl rfl rfl ?_
          refine RL.guard_no rfl rfl rfl ?_
          refine RL.p T ?_
          refine RL.nil _ _ _ _ ?_
          refine hK9 _ _ _ ?_
          refine SW.cond_t rfl ?_
          refine SW.seq_k fun K10 hK10 => ?_
          refine SW.region _ _ _ _ ?_
          refine RL.p T ?_
          refine RL.p T ?_
          refine RL.p T ?_
          refine RL.sp 39 (fun hs1 => ?_) (fun hs1 => ?_)
          ·skip
           first
            | (exfalso; first | omega | contradiction | (clear hK10 K10; clear hK9 K9; clear hK8 K8; clear hK7 K7; clear hK5 K5; clear hK4 K4; clear hK2 K2; clear hK1 K1; clear hK0 K0; simp at *; done))
            | (
             refine RL.p T ?_
             refine RL.p T ?_
             refine RL.p T ?_
             refine RL.p T ?_
             refine RL.nil _ _ _ _ ?_
             refine hK10 _ _ _ ?_
             refine SW.ret ?_
             refine retQ.rr (H) ?_
             clear hK10 K10 hK9 K9 hK8 K8 hK7 K7 hK5 K5 hK4 K4 hK2 K2 hK1 K1 hK0 K0
             first
               | exact ⟨rfl, rfl⟩
             )
          ·skip
           first
            | (exfalso; first | omega | contradiction | (clear hK10 K10; clear hK9 K9; clear hK8 K8; clear hK7 K7; clear hK5 K5; clear hK4 K4; clear hK2 K2; clear hK1 K1; clear hK0 K0; simp at *; done))
            | (
             refine RL.guard_no rfl rfl rfl ?_
             refine RL.guard_no rfl rfl rfl ?_
             refine RL.p T ?_
             refine RL.p T ?_
             refine RL.nil _ _ _ _ ?_
             refine hK10 _ _ _ ?_
             refine SW.ret ?_
             refine retQ.rr (H) ?_
             clear hK10 K10 hK9 K9 hK8 K8 hK7 K7 hK5 K5 hK4 K4 hK2 K2 hK1 K1 hK0 K0
             first
               | exact ⟨rfl, rfl⟩
             )
          )
       ·skip
        first
         | (exfalso; first | omega | contradiction | (clear hK9 K9; clear hK8 K8; clear hK7 K7; clear hK5 K5; clear hK4 K4; clear hK2 K2; clear hK1 K1; clear hK0 K0; simp at *; done))
         | (
          refine RL.p T ?_
          refine RL.p T ?_
          refine RL.p T ?_
          refine RL.nil _ _ _ _ ?_
          refine hK9 _ _ _ ?_
          refine SW.cs (fun hc2 => ?_) (fun hc2 => ?_)
          ·skip
           first
            | (exfalso; first | omega | contradiction | (clear hK9 K9; clear hK8 K8; clear hK7 K7; clear hK5 K5; clear hK4 K4; clear hK2 K2; clear hK1 K1; clear hK0 K0; simp at *; done))
            | (
             refine SW.seq_k fun K11 hK11 => ?_
             refine SW.region _ _ _ _ ?_
             refine RL.p T ?_
             refine RL.p T ?_
             refine RL.p T ?_
             refine RL.sp 39 (fun hs2 => ?_) (fun hs2 => ?_)
             ·skip
              first
               | (exfalso; first | omega | contradiction | (clear hK11 K11; clear hK9 K9; clear hK8 K8; clear hK7 K7; clear hK5 K5; clear hK4 K4; clear hK2 K2; clear hK1 K1; clear hK0 K0; simp at *; done))
               | (
                refine RL.p T ?_
                refine RL.p T ?_
                refine RL.p T ?_
                refine RL.p T ?_
                refine RL.nil _ _ _ _ ?_
                refine hK11 _ _ _ ?_
                refine SW.ret ?_
                refine retQ.rr (H) ?_
                clear hK11 K11 hK9 K9 hK8 K8 hK7 K7 hK5 K5 hK4 K4 hK2 K2 hK1 K1 hK0 K0
                first
                  | exact ⟨rfl, rfl⟩
                )
             ·skip
              first
               | (exfalso; first | omega | contradiction | (clear hK11 K11; clear hK9 K9; clear hK8 K8; clear hK7 K7; clear hK5 K5; clear hK4 K4; clear hK2 K2; clear hK1 K1; clear hK0 K0; simp at *; done))
               | (
                refine RL.guard_no rfl rfl rfl ?_
                refine RL.guard_no rfl rfl rfl ?_
                refine RL.p T ?_
                refine RL.p T ?_
                refine RL.nil _ _ _ _ ?_
                refine hK11 _ _ _ ?_
                refine SW.ret ?_
                refine retQ.rr (H) ?_
                clear hK11 K11 hK9 K9 hK8 K8 hK7 K7 hK5 K5 hK4 K4 hK2 K2 hK1 K1 hK0 K0
                first
                  | exact ⟨rfl, rfl⟩
                )
             )
          ·skip
           first
            | (exfalso; first | omega | contradiction | (clear hK9 K9; clear hK8 K8; clear hK7 K7; clear hK5 K5; clear hK4 K4; clear hK2 K2; clear hK1 K1; clear hK0 K0; simp at *; done))
            | (
             refine SW.skip ?_
             refine hK8 _ _ _ ?_
             refine SW.seq_k fun K12 hK12 => ?_
             refine SW.seq_k fun K13 hK13 => ?_
             refine SW.region _ _ _ _ ?_
             refine RL.p T ?_
             refine RL.p T ?_
             refine RL.p T ?_
             refine RL.sp 45 (fun hs3 => ?_) (fun hs3 => ?_)
             ·skip
              first
               | (exfalso; first | omega | contradiction | (clear hK13 K13; clear hK12 K12; clear hK9 K9; clear hK8 K8; clear hK7 K7; clear hK5 K5; clear hK4 K4; clear hK2 K2; clear hK1 K1; clear hK0 K0; simp at *; done))
               | (
                refine RL.guard_no rfl rfl rfl ?_
                refine RL.guard_no rfl rfl rfl ?_
                refine RL.p T ?_
                refine RL.nil _ _ _ _ ?_
                refine hK13 _ _ _ ?_
                refine SW.cond_t rfl ?_
                refine SW.seq_k fun K14 hK14 => ?_
                refine SW.region _ _ _ _ ?_
                refine RL.p T ?_
                refine RL.nil _ _ _ _ ?_
                refine hK14 _ _ _ ?_
                refine SW.ret ?_
                refine retQ.rr (H) ?_
                clear hK14 K14 hK13 K13 hK12 K12 hK9 K9 hK8 K8 hK7 K7 hK5 K5 hK4 K4 hK2 K2 hK1 K1 hK0 K0
                first
                  | exact ⟨rfl, rfl⟩
                )
             ·skip
              first
               | (exfalso; first | omega | contradiction | (clear hK13 K13; clear hK12 K12; clear hK9 K9; clear hK8 K8; clear hK7 K7; clear hK5 K5; clear hK4 K4; clear hK2 K2; clear hK1 K1; clear hK0 K0; simp at *; done))
               | (
                refine RL.p T ?_
                refine RL.p T ?_
                refine RL.p T ?_
                refine RL.nil _ _ _ _ ?_
                refine hK13 _ _ _ ?_
                refine SW.cs (fun hc3 => ?_) (fun hc3 => ?_)
                ·skip
                 first
                  | (exfalso; first | omega | contradiction | (clear hK13 K13; clear hK12 K12; clear hK9 K9; clear hK8 K8; clear hK7 K7; clear hK5 K5; clear hK4 K4; clear hK2 K2; clear hK1 K1; clear hK0 K0; simp at *; done))
                  | (
                   refine SW.seq_k fun K15 hK15 => ?_
                   refine SW.region _ _ _ _ ?_
                   refine RL.p T ?_
                   refine RL.nil _ _ _ _ ?_
                   refine hK15 _ _ _ ?_
                   refine SW.ret ?_
                   refine retQ.rr (H) ?_
                   clear hK15 K15 hK13 K13 hK12 K12 hK9 K9 hK8 K8 hK7 K7 hK5 K5 hK4 K4 hK2 K2 hK1 K1 hK0 K0
                   first
                     | exact ⟨rfl, rfl⟩
                   )
                ·skip
                 exfalso; first | omega | contradiction | (clear hK13 K13; clear hK12 K12; clear hK9 K9; clear hK8 K8; clear hK7 K7; clear hK5 K5; clear hK4 K4; clear hK2 K2; clear hK1 K1; clear hK0 K0; simp at *; done)
                )
             )
          )
       )
    )
theorem queueActsI {w0 : World} {H : List Chunk} (room : Int) (ls : List Qa) (sr : Option Addr) (nr cr : Nat) (hB : ∀ H, Rd w0 H sr nr cr 13 (ls.flatMap QaC)) (hnr : nr = ls.length) (hmr : nr ≤ 4398046511000) (hls : ∀ H, ∀ y ∈ ls, FsOk w0 H y.x) : SC Try.prog w0 4 #[.int .i64 room, .slice sr nr cr] H (fun v H' => v = .bool true ∧ H' = H) := by
  by_cases h : room < 0 ∨ 64 < room
  · exact queueActs_bad room h ls sr nr cr hB hnr hmr hls
  · obtain ⟨q, rfl⟩ := Int.eq_ofNat_of_zero_le (by omega : 0 ≤ room)
    exact queueActs q (by omega) ls sr nr cr hB hnr hmr hls
end Go.Proofs.Ytjemdjjmpgjieaa.M
