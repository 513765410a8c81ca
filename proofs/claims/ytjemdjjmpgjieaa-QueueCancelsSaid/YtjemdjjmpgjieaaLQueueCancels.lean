import Derived.Test.YtjemdjjmpgjieaaProg
import Derived.Test.YtjemdjjmpgjieaaFN14
import Derived.Test.YtjemdjjmpgjieaaS37
import Derived.Test.YtjemdjjmpgjieaaP14b
import Derived.Test.YtjemdjjmpgjieaaFL14
set_option linter.unusedVariables false
set_option linter.unusedSimpArgs false
namespace Go.Proofs.Ytjemdjjmpgjieaa.M
open Go Go.Sep Go.Proofs
set_option maxRecDepth 10000
set_option maxHeartbeats 2000000
theorem nodup_len : ∀ (n : Nat) (l : List Int), l.Nodup → (∀ x ∈ l, 1 ≤ x ∧ x ≤ (n : Int)) → l.length ≤ n
  | 0, l, _, h => by
    cases l with
    | nil => exact Nat.le_refl _
    | cons a l => have := h a (List.mem_cons_self ..); omega
  | n + 1, l, hn, h => by
    by_cases hm : ((n + 1 : Nat) : Int) ∈ l
    · have h1 := nodup_len n (l.erase ((n + 1 : Nat) : Int)) (hn.erase _) (fun x hx => by
        have h2 := (List.Nodup.mem_erase_iff hn).1 hx
        have h3 := h x h2.2
        have h4 := h2.1
        omega)
      rw [List.length_erase_of_mem hm] at h1
      omega
    · have h1 := nodup_len n l hn (fun x hx => by
        have h3 := h x hx
        have h4 : x ≠ ((n + 1 : Nat) : Int) := fun e => hm (e ▸ hx)
        omega)
      omega
theorem nos_all {w0 : World} {G : List Chunk} {L : List En} {n : Nat} (h : QI w0 L (n : Nat) G) (hn : n = L.length) {K : Int} (hk : 1 ≤ K ∧ K ≤ n) : ∃ e ∈ L, e.no = K := by
  by_cases hm : K ∈ L.map (·.no)
  · obtain ⟨e, he, h1⟩ := List.mem_map.1 hm; exact ⟨e, he, h1⟩
  · exfalso
    have h1 := nodup_len n (K :: L.map (·.no)) (List.nodup_cons.2 ⟨hm, h.nd⟩) (fun x hx => by
      rcases List.mem_cons.1 hx with rfl | hx
      · exact hk
      · obtain ⟨e, he, rfl⟩ := List.mem_map.1 hx
        have := h.ok e he
        exact ⟨this.1, this.2.1⟩)
    simp at h1
    omega
theorem gE_ne {L : List En} {K : Int} (h : ∀ j, j < L.length → (gE L j).no ≠ K) : ∀ e ∈ L, e.no ≠ K := fun e he => by
  obtain ⟨j, hj, rfl⟩ := List.getElem_of_mem he
  have := gE_get hj
  rw [List.getElem?_eq_getElem hj] at this
  rw [Option.some.inj this]
  exact h j hj
theorem canc {w0 : World} {G : List Chunk} {n n2 : Nat} {L L2 : List En} {K er last : Int} (hn : n = L.length) (hqi : QI w0 L last G)
    (h : (er = 9 ∧ n2 = n ∧ L2 = L ∧ ∀ j, j < n → (gE L j).no ≠ K) ∨ (er = 0 ∧ ∃ i, i < n ∧ (gE L i).no = K ∧ n2 = n - 1 ∧ L2 = (remL L i).take (n - 1))) :
    n2 = L2.length ∧ n2 ≤ n ∧ QI w0 L2 last G ∧ (∀ e ∈ L2, e.no ≠ K) ∧ L2.Perm (L.filter (fun e => decide (e.no ≠ K))) ∧ ((er = 9 ∧ n2 = n ∧ ∀ e ∈ L, e.no ≠ K) ∨ (er = 0 ∧ n2 + 1 = n ∧ ∃ e ∈ L, e.no = K)) := by
  rcases h with ⟨h1, rfl, rfl, h2⟩ | ⟨h1, i, hi, hk, rfl, rfl⟩
  · have h3 := gE_ne (by rw [← hn]; exact h2)
    refine ⟨hn, Nat.le_refl _, hqi, h3, ?_, .inl ⟨h1, rfl, h3⟩⟩
    rw [List.filter_eq_self.2 (fun e he => decide_eq_true (h3 e he))]
  · have hr := rem_rest (L := L) (i := i) (by omega)
    rw [← hn] at hr
    have hq : QI w0 ((remL L i).take (n - 1)) last G := by
      have := hqi.rem (i := i) (by omega)
      rwa [← hn] at this
    have hnd := perm_nd hr hqi.nd
    rw [List.map_cons, List.nodup_cons] at hnd
    have hne : ∀ e ∈ (remL L i).take (n - 1), e.no ≠ K := fun e he h => hnd.1 (List.mem_map.2 ⟨e, he, by rw [h, hk]⟩)
    refine ⟨by rw [List.length_take, remL_len]; omega, by omega, hq, hne, ?_, .inr ⟨h1, by omega, gE L i, gE_in (by omega), hk⟩⟩
    have h3 := (hr.filter (fun e => decide (e.no ≠ K)))
    rw [List.filter_cons, if_neg (by simp [hk]), List.filter_eq_self.2 (fun e he => decide_eq_true (hne e he))] at h3
    exact h3
theorem pair_sorted {L : List En} (h : L.Pairwise leE) : SortedE L := fun i j hij hj => by
  rw [List.pairwise_iff_getElem] at h
  have e : ∀ k (hk : k < L.length), gE L k = L[k] := fun k hk => by have := gE_get hk; rw [List.getElem?_eq_getElem hk] at this; exact (Option.some.inj this).symm
  rw [e i (by omega), e j hj]
  exact h i j (by omega) hj hij
theorem canc_out {L L2 S S2 : List En} {out out2 : List It} {K : Int} (hnd : (L.map (·.no)).Nodup) (hp : S.Perm L) (hs : SortedE S) (ho : out.map itP = S.map enP) (hp2 : S2.Perm L2) (hs2 : SortedE S2) (ho2 : out2.map itP = S2.map enP) (hL : L2.Perm (L.filter (fun e => decide (e.no ≠ K)))) :
    out2.map itP = (out.filter (fun i => decide (i.no ≠ K))).map itP := by
  have hF : S2.Perm (S.filter (fun e => decide (e.no ≠ K))) := (hp2.trans hL).trans (hp.filter _).symm
  have hn2 : (S2.map (·.no)).Nodup := perm_nd hF ((perm_nd hp hnd).sublist (List.Sublist.map _ List.filter_sublist))
  have e : S2 = S.filter (fun e => decide (e.no ≠ K)) := sorted_one hn2 hs2 (pair_sorted ((sorted_pair hs).sublist List.filter_sublist)) hF
  have e1 : (out.filter (fun i => decide (i.no ≠ K))).map itP = (out.map itP).filter (fun q => decide (q.1 ≠ K)) := by rw [List.filter_map]; rfl
  have e2 : (S.filter (fun e => decide (e.no ≠ K))).map enP = (S.map enP).filter (fun q => decide (q.1 ≠ K)) := by rw [List.filter_map]; rfl
  rw [ho2, e, e1, e2, ho]
theorem can_dead {er K : Int} {n : Nat} (hb : (er = 0 ∧ 1 ≤ K ∧ K ≤ n) ∨ (er = 9 ∧ ¬ (1 ≤ K ∧ K ≤ n))) (h : (decide (er = 0) == (decide (1 ≤ K) && decide (K ≤ n))) = false ∨ ¬er = 0 ∧ ¬er = 9) : False := by
  rcases hb with ⟨h1, h2, h3⟩ | ⟨h1, h2⟩
  · rw [decide_eq_true h1, decide_eq_true h2, decide_eq_true h3] at h
    rcases h with h | h
    · exact absurd h (by decide)
    · omega
  · have h3 : (decide (1 ≤ K) && decide (K ≤ n)) = false := by rw [← Bool.not_eq_true, Bool.and_eq_true, decide_eq_true_iff, decide_eq_true_iff]; exact h2
    rw [decide_eq_false (by omega), h3] at h
    rcases h with h | h
    · exact absurd h (by decide)
    · omega
theorem filt_y {out : List It} {k : Nat} {K : Int} (hk : k < out.length) (h : (out.getD k default).no ≠ K) : (out.take (k + 1)).filter (fun i => decide (i.no ≠ K)) = (out.take k).filter (fun i => decide (i.no ≠ K)) ++ [out.getD k default] := by
  rw [take_it (n := out.length) hk rfl, List.filter_append, List.filter_cons, if_pos (decide_eq_true h)]; rfl
theorem filt_n {out : List It} {k : Nat} {K : Int} (hk : k < out.length) (h : (out.getD k default).no = K) : (out.take (k + 1)).filter (fun i => decide (i.no ≠ K)) = (out.take k).filter (fun i => decide (i.no ≠ K)) := by
  rw [take_it (n := out.length) hk rfl, List.filter_append, List.filter_cons, if_neg (by rw [decide_eq_true_iff]; exact fun c => c h)]; exact List.append_nil _
theorem canc_no {H : List Chunk} {bq : Nat} {room last : Int} {a : Option Addr} {n c : Nat} {L : List En} {K : Int} (hn : n = L.length) (hne : ∀ e ∈ L, e.no ≠ K) : ∀ (v : Value) (H' : List Chunk), (∃ (er : Int) (n2 : Nat) (L2 : List En), v = .int .i64 er ∧ H' = (.var bq 73 [.int .i64 room, .int .i64 last, .slice a n2 c] :: .row a n2 c 80 13 (List.flatMap EnC (L2)) :: H) ∧ ((er = 9 ∧ n2 = n ∧ L2 = L ∧ ∀ j, j < n → (gE L j).no ≠ K) ∨ (er = 0 ∧ ∃ i, i < n ∧ (gE L i).no = K ∧ n2 = n - 1 ∧ L2 = (remL L i).take (n - 1)))) → v = .int .i64 9 ∧ H' = (.var bq 73 [.int .i64 room, .int .i64 last, .slice a n c] :: .row a n c 80 13 (List.flatMap EnC (L)) :: H) := by
  rintro v H' ⟨er, n2, L2, rfl, rfl, h⟩
  rcases h with ⟨rfl, rfl, rfl, _⟩ | ⟨_, i, hi, hk, _⟩
  · exact ⟨rfl, rfl⟩
  · exact absurd hk (hne _ (gE_in (by omega)))
theorem queueCancels {w0 : World} {H : List Chunk} (ls : List Fs) (sr : Option Addr) (nr cr : Nat) (hB : ∀ H, Rd w0 H sr nr cr 11 (ls.flatMap FsC)) (hnr : nr = ls.length) (hmr : nr ≤ 4398046511000) (hls : ∀ H, ∀ y ∈ ls, FsOk w0 H y) (z : Int) (hz : 0 ≤ z ∧ z ≤ 255) : SC Try.prog w0 5 #[.slice sr nr cr, .int .u8 z] H (fun v H' => v = .bool true ∧ H' = H) := by
 refine SC.enter Try.func5 rfl (Nat.le_of_ble_eq_true rfl) ?_
 refine SW.seq_k fun K0 hK0 => ?_
 refine SW.region _ _ _ _ ?_
 refine RL.p T ?_
 refine RL.nil _ _ _ _ ?_
 refine hK0 _ _ _ ?_
 refine SW.seq_k fun K1 hK1 => ?_
 refine SW.seq_k fun K2 hK2 => ?_
 refine SW.region _ _ _ _ ?_
 refine RL.c fun9 (fun hs => alive) ?_
 rintro _ _ ⟨rfl, e⟩; obtain rfl := e.symm
 refine RL.p T ?_
 refine RL.nil _ _ _ _ ?_
 refine hK2 _ _ _ ?_
 refine SW.cs (fun hc0 => ?_) (fun hc0 => ?_)
 ·skip
  first
   | (exfalso; first | omega | exact can_dead hb hc2 | contradiction | (clear hK2 K2; clear hK1 K1; clear hK0 K0; simp at *; done))
   | (
    refine SW.seq_k fun K3 hK3 => ?_
    refine SW.region _ _ _ _ ?_
    refine RL.p T ?_
    refine RL.nil _ _ _ _ ?_
    refine hK3 _ _ _ ?_
    refine SW.ret ?_
    refine retQ.wk (H) ?_
    refine retQ.rr _ ?_ (hH := fun w hw => hw)
    clear hK3 K3 hK2 K2 hK1 K1 hK0 K0
    first
      | exact ⟨rfl, rfl⟩
      | exact ⟨boolE (decide_eq_true (by omega)), rfl⟩
    )
 ·skip
  first
   | (exfalso; first | omega | exact can_dead hb hc2 | contradiction | (clear hK2 K2; clear hK1 K1; clear hK0 K0; simp at *; done))
   | (
    refine SW.skip ?_
    refine hK1 _ _ _ ?_
    refine SW.seq_k fun K4 hK4 => ?_
    refine SW.seq_k fun K5 hK5 => ?_
    refine SW.region _ _ _ _ ?_
    refine RL.p T ?_
    refine RL.p T ?_
    refine RL.p T ?_
    refine RL.nil _ _ _ _ ?_
    refine hK5 _ _ _ ?_
    refine SW.cs (fun hc1 => ?_) (fun hc1 => ?_)
    ·skip
     first
      | (exfalso; first | omega | exact can_dead hb hc2 | contradiction | (clear hK5 K5; clear hK4 K4; clear hK2 K2; clear hK1 K1; clear hK0 K0; simp at *; done))
      | (
       refine SW.seq_k fun K6 hK6 => ?_
       refine SW.region _ _ _ _ ?_
       refine RL.p T ?_
       refine RL.nil _ _ _ _ ?_
       refine hK6 _ _ _ ?_
       refine SW.ret ?_
       refine retQ.wk (H) ?_
       refine retQ.rr _ ?_ (hH := fun w hw => hw)
       clear hK6 K6 hK5 K5 hK4 K4 hK2 K2 hK1 K1 hK0 K0
       first
         | exact ⟨rfl, rfl⟩
         | exact ⟨boolE (decide_eq_true (by omega)), rfl⟩
       )
    ·skip
     first
      | (exfalso; first | omega | exact can_dead hb hc2 | contradiction | (clear hK5 K5; clear hK4 K4; clear hK2 K2; clear hK1 K1; clear hK0 K0; simp at *; done))
      | (
       refine SW.skip ?_
       refine hK4 _ _ _ ?_
       refine SW.seq_k fun K7 hK7 => ?_
       refine SW.region _ _ _ _ ?_
       refine RL.p T ?_
       refine RL.c fun27 (fun hs => fill ls sr nr cr hB hnr hmr hls (by omega)) ?_
       rintro _ _ ⟨bq, a, n, c, L, G, rfl, e, hnL, hn64, hqi0⟩; obtain rfl := e.symm
       refine RL.p T ?_
       refine RL.p T ?_
       refine RL.p T ?_
       refine RL.p T ?_
       refine RL.p T ?_
       refine RL.nil _ _ _ _ ?_
       refine hK7 _ _ _ ?_
       refine SW.seq_k fun K8 hK8 => ?_
       refine SW.region _ _ _ _ ?_
       refine RL.p T ?_
       refine RL.c fun26 (fun hs => SC.wk (qall bq 64 (n : Nat) a n c L hnL (by omega) (fun q hq => (hqi0.fs q hq).appr) (H := G ++ H))) ?_
       rintro _ _ ⟨oa, oc, out, S, G2, rfl, hol, hpm, hst, hop, hog, e⟩; obtain rfl := e.symm
       refine RL.p T ?_
       refine RL.nil _ _ _ _ ?_
       refine hK8 _ _ _ ?_
       refine SW.seq_k fun K9 hK9 => ?_
       refine SW.region _ _ _ _ ?_
       refine RL.p T ?_
       first | refine RL.cv T ?_ | refine RL.p T ?_ | refine RL.ts T ?_
       refine RL.p T ?_
       first | refine RL.ar ?_ | refine RL.p T ?_
       first | refine RL.q (QV.remP rfl rfl rfl (by omega) (by omega)) ?_ | refine RL.q (QV.rem rfl rfl rfl (by omega) rfl) ?_
       refine RL.p T ?_
       refine RL.nil _ _ _ _ ?_
       refine hK9 _ _ _ ?_
       refine SW.seq_k fun K10 hK10 => ?_
       have hy0 := Int.emod_nonneg z (b := ((n : Nat) : Int) + 2) (by omega)
       have hy1 := Int.emod_lt_of_pos z (b := ((n : Nat) : Int) + 2) (by omega)
       refine SW.region _ _ _ _ ?_
       refine RL.p T ?_
       refine RL.p T ?_
       refine RL.c fun19 (fun hs => SC.wk (cancelU bq 64 (n : Nat) a n c L hnL (by omega) (z % ((n : Nat) + 2)) (H := .row oa n oc 37 12 (List.flatMap ItC out) :: (G2 ++ (G ++ H))))) ?_
       rintro _ _ ⟨er, n2, L2, rfl, e, hcan⟩; obtain rfl := e.symm
       obtain ⟨hn2, hn3, hqi2, hne2, hpf, hor⟩ := canc hnL hqi0 hcan
       have hb : (er = 0 ∧ 1 ≤ (z % ((n : Nat) + 2)) ∧ (z % ((n : Nat) + 2)) ≤ n) ∨ (er = 9 ∧ ¬ (1 ≤ (z % ((n : Nat) + 2)) ∧ (z % ((n : Nat) + 2)) ≤ n)) := by
         rcases hor with ⟨h1, _, h2⟩ | ⟨h1, _, e, he, h2⟩
         · exact .inr ⟨h1, fun h3 => by obtain ⟨e, he, h4⟩ := nos_all hqi0 hnL h3; exact h2 e he h4⟩
         · have h5 := hqi0.ok e he
           rw [h2] at h5
           exact .inl ⟨h1, h5.1, h5.2.1⟩
       refine RL.p T ?_
       refine RL.nil _ _ _ _ ?_
       refine hK10 _ _ _ ?_
       refine SW.seq_k fun K11 hK11 => ?_
       refine SW.seq_k fun K12 hK12 => ?_
       refine SW.region _ _ _ _ ?_
       refine RL.p T ?_
       refine RL.p T ?_
       refine RL.p T ?_
       refine RL.p T ?_
       refine RL.p T ?_
       refine RL.join (fr1 := ?_) 3 37 true [38, 39, 40] (fun hs0 hj => ?_) ?_ ?_
       rotate_left
       ·have hs0j := hs0
        try simp only [decide_eq_true_eq, Bool.not_eq_true', decide_eq_false_iff_not, Bool.not_eq_false', Int.not_lt, Int.not_le, Int.toNat_natCast, Bool.and_eq_true, Bool.or_eq_true, Bool.and_eq_false_iff, Bool.or_eq_false_iff] at hs0
        refine RL.p T ?_
        refine RL.p T ?_
        refine RL.p T ?_
        exact hj
       ·repeat first | with_reducible exact Mx.refl | with_reducible exact Mx.mix | refine Mx.put rfl ?_ | refine Mx.upd rfl ?_ | refine Mx.updl rfl ?_ | refine Mx.fin rfl ?_ | refine Mx.inner rfl ?_ | refine Mx.none ?_ | exact Mx.refl | exact Mx.mix
       refine RL.and ?_
       refine RL.p T ?_
       refine RL.p T ?_
       refine RL.join (fr1 := ?_) 6 43 false [44, 45, 46, 47, 48, 49] (fun hs1 hj => ?_) ?_ ?_
       rotate_left
       ·have hs1j := hs1
        try simp only [decide_eq_true_eq, Bool.not_eq_true', decide_eq_false_iff_not, Bool.not_eq_false', Int.not_lt, Int.not_le, Int.toNat_natCast, Bool.and_eq_true, Bool.or_eq_true, Bool.and_eq_false_iff, Bool.or_eq_false_iff] at hs1
        refine RL.p T ?_
        refine RL.p T ?_
        refine RL.p T ?_
        refine RL.join (fr1 := ?_) 2 46 true [47, 48] (fun hs2 hj => ?_) ?_ ?_
        rotate_left
        ·have hs2j := hs2
         try simp only [decide_eq_true_eq, Bool.not_eq_true', decide_eq_false_iff_not, Bool.not_eq_false', Int.not_lt, Int.not_le, Int.toNat_natCast, Bool.and_eq_true, Bool.or_eq_true, Bool.and_eq_false_iff, Bool.or_eq_false_iff] at hs2
         refine RL.p T ?_
         refine RL.p T ?_
         exact hj
        ·repeat first | with_reducible exact Mx.refl | with_reducible exact Mx.mix | refine Mx.put rfl ?_ | refine Mx.upd rfl ?_ | refine Mx.updl rfl ?_ | refine Mx.fin rfl ?_ | refine Mx.inner rfl ?_ | refine Mx.none ?_ | exact Mx.refl | exact Mx.mix
        refine RL.and ?_
        exact hj
       ·repeat first | with_reducible exact Mx.refl | with_reducible exact Mx.mix | refine Mx.put rfl ?_ | refine Mx.upd rfl ?_ | refine Mx.updl rfl ?_ | refine Mx.fin rfl ?_ | refine Mx.inner rfl ?_ | refine Mx.none ?_ | exact Mx.refl | exact Mx.mix
       refine RL.or ?_
       refine RL.nil _ _ _ _ ?_
       refine hK12 _ _ _ ?_
       refine SW.cs (fun hc2 => ?_) (fun hc2 => ?_)
       ·skip
        first
         | (exfalso; first | omega | exact can_dead hb hc2 | contradiction | (clear hK12 K12; clear hK11 K11; clear hK10 K10; clear hK9 K9; clear hK8 K8; clear hK7 K7; clear hK5 K5; clear hK4 K4; clear hK2 K2; clear hK1 K1; clear hK0 K0; simp at *; done))
         | (
          refine SW.seq_k fun K13 hK13 => ?_
          refine SW.region _ _ _ _ ?_
          refine RL.p T ?_
          refine RL.nil _ _ _ _ ?_
          refine hK13 _ _ _ ?_
          refine SW.ret ?_
          refine retQ.wk (H) ?_
          refine retQ.rr _ ?_ (hH := fun w hw => hw)
          clear hK13 K13 hK12 K12 hK11 K11 hK10 K10 hK9 K9 hK8 K8 hK7 K7 hK5 K5 hK4 K4 hK2 K2 hK1 K1 hK0 K0
          first
            | exact ⟨rfl, rfl⟩
            | exact ⟨boolE (decide_eq_true (by omega)), rfl⟩
          )
       ·skip
        first
         | (exfalso; first | omega | exact can_dead hb hc2 | contradiction | (clear hK12 K12; clear hK11 K11; clear hK10 K10; clear hK9 K9; clear hK8 K8; clear hK7 K7; clear hK5 K5; clear hK4 K4; clear hK2 K2; clear hK1 K1; clear hK0 K0; simp at *; done))
         | (
          refine SW.skip ?_
          refine hK11 _ _ _ ?_
          refine SW.seq_k fun K14 hK14 => ?_
          refine SW.region _ _ _ _ ?_
          refine RL.nilrow 37 12 ?_
          refine RL.p T ?_
          refine RL.nilrow 37 12 ?_
          refine RL.wk (.row none 0 0 37 12 (List.flatMap ItC ([])) :: .var bq 73 [.int .i64 64, .int .i64 (n : Nat), .slice a n2 c] :: .row a n2 c 80 13 (List.flatMap EnC (L2)) :: .row oa n oc 37 12 (List.flatMap ItC out) :: (G2 ++ (G ++ H))) ?_
          refine RL.nil _ _ _ _ ?_
          refine hK14 _ _ _ ?_
          refine SW.seq_k fun K15 hK15 => ?_
          refine SW.seq_k fun K16 hK16 => ?_
          refine SW.region _ _ _ _ ?_
          refine RL.p T ?_
          refine RL.p T ?_
          refine RL.p T ?_
          refine RL.nil _ _ _ _ ?_
          refine hK16 _ _ _ ?_
          refine SW.block ?_
          refine SW.loopM (fun frB mm fr ds HH => ∃ (k : Nat) (wa : Option Addr) (m wc : Nat) (W : List It), mm = n - k ∧ (k ≤ n ∧ (m = W.length ∧ m ≤ k ∧ W = (out.take k).filter (fun i => decide (i.no ≠ (z % ((n : Nat) + 2)))))) ∧ FrIs [10, 12, 53, 54, 55, 56, 57, 58, 59, 60, 61, 62, 63, 64, 65] frB fr [(53, .int .i64 k), (10, .slice wa m wc)] ∧ ds = [] ∧ HH = (.row wa m wc 37 12 (List.flatMap ItC (W)) :: .var bq 73 [.int .i64 64, .int .i64 (n : Nat), .slice a n2 c] :: .row a n2 c 80 13 (List.flatMap EnC (L2)) :: .row oa n oc 37 12 (List.flatMap ItC out) :: (G2 ++ (G ++ H)))) (n := n - 0) ?_ ?_
          ·exact ⟨0, none, 0, 0, [], rfl, ⟨Nat.zero_le _, ⟨rfl, Nat.le_refl _, rfl⟩⟩, (.cons rfl (.cons rfl (.nil (by repeat first | with_reducible exact Mx.refl | with_reducible exact Mx.mix | refine Mx.put rfl ?_ | refine Mx.upd rfl ?_ | refine Mx.updl rfl ?_ | refine Mx.fin rfl ?_ | refine Mx.inner rfl ?_ | refine Mx.none ?_ | exact Mx.refl | exact Mx.mix)))), rfl, rfl⟩
          ·rintro mm fr ds HH ⟨k, wa, m, wc, W, rfl, ⟨hk, ⟨hmW, hmk, hW⟩⟩, hFr, rfl, eHH⟩
           obtain rfl := eHH.symm
           obtain ⟨frU, rfl⟩ := hFr.eq
           clear hFr
           refine SW.seq_k fun K17 hK17 => ?_
           refine SW.region _ _ _ _ ?_
           refine RL.p T ?_
           refine RL.nil _ _ _ _ ?_
           refine hK17 _ _ _ ?_
           refine SW.seq_k fun K18 hK18 => ?_
           refine SW.cs (fun hc3 => ?_) (fun hc3 => ?_)
           ·skip
            first
             | (exfalso; first | omega | exact can_dead hb hc2 | contradiction | (clear hK18 K18; clear hK17 K17; clear hK16 K16; clear hK15 K15; clear hK14 K14; clear hK12 K12; clear hK11 K11; clear hK10 K10; clear hK9 K9; clear hK8 K8; clear hK7 K7; clear hK5 K5; clear hK4 K4; clear hK2 K2; clear hK1 K1; clear hK0 K0; simp at *; done))
             | (
              refine SW.skip ?_
              refine hK18 _ _ _ ?_
              refine SW.seq_k fun K19 hK19 => ?_
              refine SW.block ?_
              refine SW.seq_k fun K20 hK20 => ?_
              refine SW.region _ _ _ _ ?_
              refine RL.ix T ?_ (hR := fun hs => (Rd.rowh hs (by repeat first | exact At.head _ _ | apply At.tail | apply At.app)))
              refine RL.leN T ?_ (hR := fun hs => (Rd.rowh hs (by repeat first | exact At.head _ _ | apply At.tail | apply At.app))) (hvs := (by exact (rfl : _ = [_, _, _, _, _, _, _, _, _, _, _, _])))
              refine RL.s ?_
              refine NV.alloc T rfl rfl rfl (by exact (rfl : _ = [_, _, _, _, _, _, _, _, _, _, _, _])) ?_
              intro b12_0
              refine RL.s ?_
              refine NV.sN T rfl rfl rfl (by exact (rfl : _ = [_, _, _, _, _, _, _, _, _, _, _, _])) (by exact (rfl : _ = [_, _, _, _, _, _, _, _, _, _, _, _])) ?_
              refine RL.nil _ _ _ _ ?_
              refine hK20 _ _ _ ?_
              refine SW.seq_k fun K21 hK21 => ?_
              refine SW.region _ _ _ _ ?_
              refine RL.p T ?_
              refine RL.lv1 T ?_
              refine RL.p T ?_
              refine RL.p T ?_
              refine RL.nil _ _ _ _ ?_
              refine hK21 _ _ _ ?_
              refine SW.cs (fun hc4 => ?_) (fun hc4 => ?_)
              ·skip
               first
                | (exfalso; first | omega | exact can_dead hb hc2 | contradiction | (clear hK21 K21; clear hK20 K20; clear hK19 K19; clear hK18 K18; clear hK17 K17; clear hK16 K16; clear hK15 K15; clear hK14 K14; clear hK12 K12; clear hK11 K11; clear hK10 K10; clear hK9 K9; clear hK8 K8; clear hK7 K7; clear hK5 K5; clear hK4 K4; clear hK2 K2; clear hK1 K1; clear hK0 K0; simp at *; done))
                | (
                 refine SW.region _ _ _ _ ?_
                 refine RL.p T ?_
                 refine RL.q (QV.vN T rfl rfl rfl rfl rfl (by exact (rfl : _ = [_, _, _, _, _, _, _, _, _, _, _, _]))) ?_
                 refine RL.bs T rfl rfl rfl (by exact (rfl : _ = some [_, _, _, _, _, _, _, _, _, _, _, _])) (fun b63_1 => ?_)
                 refine RL.apS T ([(out.getD k default)]) (fun a0_ c0_ => ?_)
                 refine RL.p T ?_
                 refine RL.nil _ _ _ _ ?_
                 refine hK19 _ _ _ ?_
                 refine SW.region _ _ _ _ ?_
                 first | refine RL.ar ?_ | refine RL.p T ?_
                 refine RL.p T ?_
                 first
                   | refine RL.wk (.row a0_ (m + 1) c0_ 37 12 (List.flatMap ItC (W ++ [(out.getD k default)])) :: .var bq 73 [.int .i64 64, .int .i64 (n : Nat), .slice a n2 c] :: .row a n2 c 80 13 (List.flatMap EnC (L2)) :: .row oa n oc 37 12 (List.flatMap ItC out) :: (G2 ++ (G ++ H))) ?_
                   | refine RL.wk (.row wa m wc 37 12 (List.flatMap ItC (W)) :: .var bq 73 [.int .i64 64, .int .i64 (n : Nat), .slice a n2 c] :: .row a n2 c 80 13 (List.flatMap EnC (L2)) :: .row oa n oc 37 12 (List.flatMap ItC out) :: (G2 ++ (G ++ H))) ?_
                 refine RL.nil _ _ _ _ ?_
                 first
                   | exact ⟨n - (k + 1), (by omega), k + 1, a0_, m + 1, c0_, W ++ [(out.getD k default)], (by rfl), ⟨by omega, ⟨by simp [hmW], by omega, by rw [filt_y (by omega) (by assumption), hW]⟩⟩, (.cons rfl (.cons rfl (.nil (by repeat first | with_reducible exact Mx.refl | with_reducible exact Mx.mix | refine Mx.put rfl ?_ | refine Mx.upd rfl ?_ | refine Mx.updl rfl ?_ | refine Mx.fin rfl ?_ | refine Mx.inner rfl ?_ | refine Mx.none ?_ | exact Mx.refl | exact Mx.mix)))), rfl, rfl⟩
                   | exact ⟨n - (k + 1), (by omega), k + 1, wa, m, wc, W, (by rfl), ⟨by omega, ⟨hmW, by omega, by rw [filt_n (by omega) (by assumption), hW]⟩⟩, (.cons rfl (.cons rfl (.nil (by repeat first | with_reducible exact Mx.refl | with_reducible exact Mx.mix | refine Mx.put rfl ?_ | refine Mx.upd rfl ?_ | refine Mx.updl rfl ?_ | refine Mx.fin rfl ?_ | refine Mx.inner rfl ?_ | refine Mx.none ?_ | exact Mx.refl | exact Mx.mix)))), rfl, rfl⟩
                 )
              ·skip
               first
                | (exfalso; first | omega | exact can_dead hb hc2 | contradiction | (clear hK21 K21; clear hK20 K20; clear hK19 K19; clear hK18 K18; clear hK17 K17; clear hK16 K16; clear hK15 K15; clear hK14 K14; clear hK12 K12; clear hK11 K11; clear hK10 K10; clear hK9 K9; clear hK8 K8; clear hK7 K7; clear hK5 K5; clear hK4 K4; clear hK2 K2; clear hK1 K1; clear hK0 K0; simp at *; done))
                | (
                 refine SW.skip ?_
                 refine hK19 _ _ _ ?_
                 refine SW.region _ _ _ _ ?_
                 first | refine RL.ar ?_ | refine RL.p T ?_
                 refine RL.p T ?_
                 first
                   | refine RL.wk (.row a0_ (m + 1) c0_ 37 12 (List.flatMap ItC (W ++ [(out.getD k default)])) :: .var bq 73 [.int .i64 64, .int .i64 (n : Nat), .slice a n2 c] :: .row a n2 c 80 13 (List.flatMap EnC (L2)) :: .row oa n oc 37 12 (List.flatMap ItC out) :: (G2 ++ (G ++ H))) ?_
                   | refine RL.wk (.row wa m wc 37 12 (List.flatMap ItC (W)) :: .var bq 73 [.int .i64 64, .int .i64 (n : Nat), .slice a n2 c] :: .row a n2 c 80 13 (List.flatMap EnC (L2)) :: .row oa n oc 37 12 (List.flatMap ItC out) :: (G2 ++ (G ++ H))) ?_
                 refine RL.nil _ _ _ _ ?_
                 first
                   | exact ⟨n - (k + 1), (by omega), k + 1, a0_, m + 1, c0_, W ++ [(out.getD k default)], (by rfl), ⟨by omega, ⟨by simp [hmW], by omega, by rw [filt_y (by omega) (by assumption), hW]⟩⟩, (.cons rfl (.cons rfl (.nil (by repeat first | with_reducible exact Mx.refl | with_reducible exact Mx.mix | refine Mx.put rfl ?_ | refine Mx.upd rfl ?_ | refine Mx.updl rfl ?_ | refine Mx.fin rfl ?_ | refine Mx.inner rfl ?_ | refine Mx.none ?_ | exact Mx.refl | exact Mx.mix)))), rfl, rfl⟩
                   | exact ⟨n - (k + 1), (by omega), k + 1, wa, m, wc, W, (by rfl), ⟨by omega, ⟨hmW, by omega, by rw [filt_n (by omega) (by assumption), hW]⟩⟩, (.cons rfl (.cons rfl (.nil (by repeat first | with_reducible exact Mx.refl | with_reducible exact Mx.mix | refine Mx.put rfl ?_ | refine Mx.upd rfl ?_ | refine Mx.updl rfl ?_ | refine Mx.fin rfl ?_ | refine Mx.inner rfl ?_ | refine Mx.none ?_ | exact Mx.refl | exact Mx.mix)))), rfl, rfl⟩
                 )
              )
           ·skip
            first
             | (exfalso; first | omega | exact can_dead hb hc2 | contradiction | (clear hK18 K18; clear hK17 K17; clear hK16 K16; clear hK15 K15; clear hK14 K14; clear hK12 K12; clear hK11 K11; clear hK10 K10; clear hK9 K9; clear hK8 K8; clear hK7 K7; clear hK5 K5; clear hK4 K4; clear hK2 K2; clear hK1 K1; clear hK0 K0; simp at *; done))
             | (
              refine SW.exit ?_
              refine hK15 _ _ _ ?_
              refine SW.seq_k fun K22 hK22 => ?_
              obtain rfl : n = k := by omega
              rw [List.take_of_length_le (by omega)] at hW
              refine SW.region _ _ _ _ ?_
              refine RL.p T ?_
              refine RL.c fun26 (fun hs => SC.wk (qall bq 64 (n : Nat) a n2 c L2 hn2 (by omega) (fun q hq => (hqi2.fs q hq).sub SubL.by) (H := .row wa m wc 37 12 (List.flatMap ItC W) :: .row oa n oc 37 12 (List.flatMap ItC out) :: (G2 ++ (G ++ H))))) ?_
              rintro _ _ ⟨oa2, oc2, out2, S2, G3, rfl, hol2, hpm2, hst2, hop2, hog2, e⟩; obtain rfl := e.symm
              have hfin := canc_out hqi0.nd hpm hst hop hpm2 hst2 hop2 hpf
              rw [← hW] at hfin
              have hogW : ∀ i ∈ W, FsOk w0 G2 i.fs := fun i hi => hog i (by rw [hW] at hi; exact (List.mem_filter.1 hi).1)
              refine RL.c fun25 (fun hs => items oa2 n2 oc2 out2 (Rd.rowh hs (by repeat first | exact At.head _ _ | apply At.tail | apply At.app)) hol2.symm (by omega)) ?_
              rintro _ _ ⟨ia, ic, rfl, e⟩; obtain rfl := e.symm
              refine RL.p T ?_
              refine RL.c fun25 (fun hs => items wa m wc W (Rd.rowh hs (by repeat first | exact At.head _ _ | apply At.tail | apply At.app)) hmW (by omega)) ?_
              rintro _ _ ⟨ja, jc, rfl, e⟩; obtain rfl := e.symm
              refine RL.c fun24 (fun hs => sames out2 W ia ja n2 ic m jc (Rd.rowh hs (by repeat first | exact At.head _ _ | apply At.tail | apply At.app)) (Rd.rowh hs (by repeat first | exact At.head _ _ | apply At.tail | apply At.app)) hol2.symm hmW (by omega) (by omega) (fun i hi => (hog2 i hi).sub SubL.by) (fun i hi => (hogW i hi).sub SubL.by) hfin) ?_
              rintro _ _ ⟨rfl, e⟩; obtain rfl := e.symm
              refine RL.p T ?_
              refine RL.sp 72 (fun hs3 => ?_) (fun hs3 => ?_)
              ·skip
               first
                | (exfalso; first | omega | exact can_dead hb hc2 | contradiction | (clear hK22 K22; clear hK18 K18; clear hK17 K17; clear hK16 K16; clear hK15 K15; clear hK14 K14; clear hK12 K12; clear hK11 K11; clear hK10 K10; clear hK9 K9; clear hK8 K8; clear hK7 K7; clear hK5 K5; clear hK4 K4; clear hK2 K2; clear hK1 K1; clear hK0 K0; simp at *; done))
                | (
                 refine RL.p T ?_
                 refine RL.p T ?_
                 refine RL.c fun19 (fun hs => SC.wk ((cancelU bq 64 (n : Nat) a n2 c L2 hn2 (by omega) (z % ((n : Nat) + 2)) (H := H)).mono (canc_no hn2 hne2))) ?_
                 rintro _ _ ⟨rfl, e⟩; obtain rfl := e.symm
                 refine RL.p T ?_
                 refine RL.p T ?_
                 refine RL.p T ?_
                 refine RL.nil _ _ _ _ ?_
                 refine hK22 _ _ _ ?_
                 refine SW.ret ?_
                 refine retQ.wk (H) ?_
                 refine retQ.rr _ ?_ (hH := fun w hw => hw)
                 clear hK22 K22 hK18 K18 hK17 K17 hK16 K16 hK15 K15 hK14 K14 hK12 K12 hK11 K11 hK10 K10 hK9 K9 hK8 K8 hK7 K7 hK5 K5 hK4 K4 hK2 K2 hK1 K1 hK0 K0
                 first
                   | exact ⟨rfl, rfl⟩
                   | exact ⟨boolE (decide_eq_true (by omega)), rfl⟩
                 )
              ·skip
               first
                | (exfalso; first | omega | exact can_dead hb hc2 | contradiction | (clear hK22 K22; clear hK18 K18; clear hK17 K17; clear hK16 K16; clear hK15 K15; clear hK14 K14; clear hK12 K12; clear hK11 K11; clear hK10 K10; clear hK9 K9; clear hK8 K8; clear hK7 K7; clear hK5 K5; clear hK4 K4; clear hK2 K2; clear hK1 K1; clear hK0 K0; simp at *; done))
                | (
                 refine RL.guard_no rfl rfl rfl ?_
                 refine RL.guard_no rfl rfl rfl ?_
                 refine RL.guard_no rfl rfl rfl ?_
                 refine RL.guard_no rfl rfl rfl ?_
                 refine RL.p T ?_
                 refine RL.p T ?_
                 refine RL.nil _ _ _ _ ?_
                 refine hK22 _ _ _ ?_
                 refine SW.ret ?_
                 refine retQ.wk (H) ?_
                 refine retQ.rr _ ?_ (hH := fun w hw => hw)
                 clear hK22 K22 hK18 K18 hK17 K17 hK16 K16 hK15 K15 hK14 K14 hK12 K12 hK11 K11 hK10 K10 hK9 K9 hK8 K8 hK7 K7 hK5 K5 hK4 K4 hK2 K2 hK1 K1 hK0 K0
                 first
                   | exact ⟨rfl, rfl⟩
                   | exact ⟨boolE (decide_eq_true (by omega)), rfl⟩
                 )
              )
          )
       )
    )
end Go.Proofs.Ytjemdjjmpgjieaa.M
