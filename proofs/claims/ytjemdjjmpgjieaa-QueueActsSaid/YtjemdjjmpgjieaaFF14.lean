import Derived.Test.YtjemdjjmpgjieaaProg
import Derived.Test.YtjemdjjmpgjieaaFE14
import Derived.Test.YtjemdjjmpgjieaaS36
import Derived.Test.YtjemdjjmpgjieaaP14f
set_option linter.unusedVariables false
set_option linter.unusedSimpArgs false
namespace Go.Proofs.Ytjemdjjmpgjieaa.M
open Go Go.Sep Go.Proofs
set_option maxRecDepth 10000
set_option maxHeartbeats 2000000
theorem hPush {w0 : World} {H : List Chunk} (bq : Nat) (room last : Int) (a : Option Addr) (n c : Nat) (L : List En) (hn : n = L.length) (hm : n < 100) (x : En) : SC Try.prog w0 32 #[.iface 78 (.pointer (some ⟨bq, 2, none⟩)), .iface 80 (EnA x)] (.var bq 73 [.int .i64 room, .int .i64 last, .slice a n c] :: .row a n c 80 13 (List.flatMap EnC (L)) :: H) (fun v H' => ∃ a' c', H' = (.var bq 73 [.int .i64 room, .int .i64 last, .slice a' (n + 1) c'] :: .row a' (n + 1) c' 80 13 (List.flatMap EnC (upL (L ++ [x]) n)) :: H)) := by
 refine SC.enter Try.func32 rfl (Nat.le_of_ble_eq_true rfl) ?_
 refine SW.seq_k fun K0 hK0 => ?_
 refine SW.region _ _ _ _ ?_
 refine RL.p T ?_
 refine RL.p T ?_
 refine RL.s (NV.sat (fun hs => NV.inv rfl rfl rfl (fun w hw => run_method_ptr (P := Try.prog) (name := "Push") (f := 111) rfl rfl rfl rfl rfl Try.prog.types.size) fun111 rfl (mPush bq room last a n c L hn (by omega) x) ?_) (fun c hc => by cases hc))
 rintro _ _ ⟨a1, c1, e⟩; obtain rfl := e.symm
 refine RL.nil _ _ _ _ ?_
 refine hK0 _ _ _ ?_
 refine SW.region _ _ _ _ ?_
 refine RL.p T ?_
 refine RL.p T ?_
 refine RL.s (NV.sat (fun hs => NV.inv rfl rfl rfl (fun w hw => run_method_val (P := Try.prog) (name := "Len") (f := 107) rfl rfl rfl rfl rfl Try.prog.types.size (ld71 hw (by repeat first | exact At.head _ _ | apply At.tail))) fun107 rfl (mLen a1 (n + 1) c1) ?_) (fun c hc => by cases hc))
 rintro _ _ ⟨rfl, e⟩; obtain rfl := e.symm
 refine RL.q (QV.as (QV.arith rfl rfl rfl rfl (by omega) (by omega)) (show _ = Value.int .i64 ((n : Nat) : Int) from congrArg _ (by omega))) ?_
 refine RL.c fun50 (fun hs => up bq room last a1 (n + 1) c1 (L ++ [x]) (by simp [hn]) (by omega) n (by omega)) ?_
 rintro _ _ e; obtain rfl := e.symm
 refine RL.nil _ _ _ _ ?_
 try simp only [thenQ, blockQ, Nat.beq_refl, cond_true]
 refine retQ.nn ((.var bq 73 [.int .i64 room, .int .i64 last, .slice a1 (n + 1) c1] :: .row a1 (n + 1) c1 80 13 (List.flatMap EnC (upL (L ++ [x]) n)) :: H)) ?_
 clear hK0 K0
 exact ⟨_, _, rfl⟩
theorem hPop {w0 : World} {H : List Chunk} (bq : Nat) (room last : Int) (a : Option Addr) (n c : Nat) (L : List En) (hn : n = L.length) (hm : n ≤ 100) (h0 : 0 < n) : SC Try.prog w0 35 #[.iface 78 (.pointer (some ⟨bq, 2, none⟩))] (.var bq 73 [.int .i64 room, .int .i64 last, .slice a n c] :: .row a n c 80 13 (List.flatMap EnC (L)) :: H) (fun v H' => v = .iface 80 (EnA (gE (popL L) (n - 1))) ∧ H' = (.var bq 73 [.int .i64 room, .int .i64 last, .slice a (n - 1) c] :: .row a (n - 1) c 80 13 (List.flatMap EnC ((popL L).take (n - 1))) :: H)) := by
 refine SC.enter Try.func35 rfl (Nat.le_of_ble_eq_true rfl) ?_
 refine SW.seq_k fun K0 hK0 => ?_
 have hpl : (downL (swapL L 0 (n - 1)) 0 (n - 1)).1 = popL L := by unfold popL; rw [hn]
 have hpn := popL_len L
 refine SW.region _ _ _ _ ?_
 refine RL.p T ?_
 refine RL.nil _ _ _ _ ?_
 refine hK0 _ _ _ ?_
 refine SW.seq_k fun K1 hK1 => ?_
 refine SW.region _ _ _ _ ?_
 refine RL.p T ?_
 refine RL.s (NV.sat (fun hs => NV.inv rfl rfl rfl (fun w hw => run_method_val (P := Try.prog) (name := "Len") (f := 107) rfl rfl rfl rfl rfl Try.prog.types.size (ld71 hw (by repeat first | exact At.head _ _ | apply At.tail))) fun107 rfl (mLen a n c) ?_) (fun c hc => by cases hc))
 rintro _ _ ⟨rfl, e⟩; obtain rfl := e.symm
 refine RL.q (QV.as (QV.arith rfl rfl rfl rfl (by omega) (by omega)) (show _ = Value.int .i64 ((n - 1 : Nat) : Int) from congrArg _ (by omega))) ?_
 refine RL.p T ?_
 refine RL.nil _ _ _ _ ?_
 refine hK1 _ _ _ ?_
 refine SW.seq_k fun K2 hK2 => ?_
 refine SW.region _ _ _ _ ?_
 refine RL.p T ?_
 refine RL.p T ?_
 refine RL.s (NV.sat (fun hs => NV.inv rfl rfl rfl (fun w hw => run_method_val (P := Try.prog) (name := "Swap") (f := 109) rfl rfl rfl rfl rfl Try.prog.types.size (ld71 hw (by repeat first | exact At.head _ _ | apply At.tail))) fun109 rfl (SC.wk (mSwap a n c L hn hm 0 (n - 1) h0 (by omega) (H := .var bq 73 [.int .i64 room, .int .i64 last, .slice a n c] :: H))) ?_) (fun c hc => by cases hc))
 rintro _ _ e; obtain rfl := e.symm
 refine RL.nil _ _ _ _ ?_
 refine hK2 _ _ _ ?_
 refine SW.seq_k fun K3 hK3 => ?_
 refine SW.region _ _ _ _ ?_
 refine RL.p T ?_
 refine RL.p T ?_
 refine RL.c fun53 (fun hs => SC.wk (down bq room last a n c (swapL L 0 (n - 1)) (by rw [swapL_len]; exact hn) hm 0 (n - 1) (by omega) (by omega) (H := H))) ?_
 rintro _ _ ⟨rfl, e⟩; obtain rfl := e.symm
 rw [hpl]
 refine RL.nil _ _ _ _ ?_
 refine hK3 _ _ _ ?_
 refine SW.seq_k fun K4 hK4 => ?_
 refine SW.region _ _ _ _ ?_
 refine RL.p T ?_
 refine RL.s (NV.sat (fun hs => NV.inv rfl rfl rfl (fun w hw => run_method_ptr (P := Try.prog) (name := "Pop") (f := 110) rfl rfl rfl rfl rfl Try.prog.types.size) fun110 rfl (mPop bq room last a n c (popL L) (by omega) hm h0) ?_) (fun c hc => by cases hc))
 rintro _ _ ⟨e, rfl, rfl, eq⟩; obtain rfl := eq.symm
 refine RL.p T ?_
 refine RL.nil _ _ _ _ ?_
 refine hK4 _ _ _ ?_
 refine SW.ret ?_
 refine retQ.rr ((.var bq 73 [.int .i64 room, .int .i64 last, .slice a (n - 1) c] :: .row a (n - 1) c 80 13 (List.flatMap EnC ((popL L).take (n - 1))) :: H)) ?_
 clear hK4 K4 hK3 K3 hK2 K2 hK1 K1 hK0 K0
 exact ⟨rfl, rfl⟩
theorem hRem {w0 : World} {H : List Chunk} (bq : Nat) (room last : Int) (a : Option Addr) (n c : Nat) (L : List En) (hn : n = L.length) (hm : n ≤ 100) (i : Nat) (hi : i < n) : SC Try.prog w0 39 #[.iface 78 (.pointer (some ⟨bq, 2, none⟩)), .int .i64 (i : Nat)] (.var bq 73 [.int .i64 room, .int .i64 last, .slice a n c] :: .row a n c 80 13 (List.flatMap EnC (L)) :: H) (fun v H' => v = .iface 80 (EnA (gE (remL L i) (n - 1))) ∧ H' = (.var bq 73 [.int .i64 room, .int .i64 last, .slice a (n - 1) c] :: .row a (n - 1) c 80 13 (List.flatMap EnC ((remL L i).take (n - 1))) :: H)) := by
 refine SC.enter Try.func39 rfl (Nat.le_of_ble_eq_true rfl) ?_
 refine SW.seq_k fun K0 hK0 => ?_
 have hdl : (downL (swapL L i (n - 1)) i (n - 1)).1.length = n := by rw [downL_len _ _ _ _ (Nat.le_refl _), swapL_len]; exact hn.symm
 have hrn := remL_len L i
 refine SW.region _ _ _ _ ?_
 refine RL.p T ?_
 refine RL.nil _ _ _ _ ?_
 refine hK0 _ _ _ ?_
 refine SW.seq_k fun K1 hK1 => ?_
 refine SW.region _ _ _ _ ?_
 refine RL.p T ?_
 refine RL.s (NV.sat (fun hs => NV.inv rfl rfl rfl (fun w hw => run_method_val (P := Try.prog) (name := "Len") (f := 107) rfl rfl rfl rfl rfl Try.prog.types.size (ld71 hw (by repeat first | exact At.head _ _ | apply At.tail))) fun107 rfl (mLen a n c) ?_) (fun c hc => by cases hc))
 rintro _ _ ⟨rfl, e⟩; obtain rfl := e.symm
 refine RL.q (QV.as (QV.arith rfl rfl rfl rfl (by omega) (by omega)) (show _ = Value.int .i64 ((n - 1 : Nat) : Int) from congrArg _ (by omega))) ?_
 refine RL.p T ?_
 refine RL.nil _ _ _ _ ?_
 refine hK1 _ _ _ ?_
 refine SW.seq_k fun K2 hK2 => ?_
 refine SW.seq_k fun K3 hK3 => ?_
 refine SW.region _ _ _ _ ?_
 refine RL.p T ?_
 refine RL.p T ?_
 refine RL.p T ?_
 refine RL.nil _ _ _ _ ?_
 refine hK3 _ _ _ ?_
 refine SW.cs (fun hc0 => ?_) (fun hc0 => ?_)
 ·skip
  first
   | (exfalso; first | omega | contradiction | (clear hK3 K3; clear hK2 K2; clear hK1 K1; clear hK0 K0; simp at *; done))
   | (
    refine SW.seq_k fun K4 hK4 => ?_
    refine SW.region _ _ _ _ ?_
    refine RL.p T ?_
    refine RL.p T ?_
    refine RL.p T ?_
    refine RL.s (NV.sat (fun hs => NV.inv rfl rfl rfl (fun w hw => run_method_val (P := Try.prog) (name := "Swap") (f := 109) rfl rfl rfl rfl rfl Try.prog.types.size (ld71 hw (by repeat first | exact At.head _ _ | apply At.tail))) fun109 rfl (SC.wk (mSwap a n c L hn hm i (n - 1) hi (by omega) (H := .var bq 73 [.int .i64 room, .int .i64 last, .slice a n c] :: H))) ?_) (fun c hc => by cases hc))
    rintro _ _ e; obtain rfl := e.symm
    refine RL.nil _ _ _ _ ?_
    refine hK4 _ _ _ ?_
    refine SW.seq_k fun K5 hK5 => ?_
    refine SW.region _ _ _ _ ?_
    refine RL.p T ?_
    refine RL.p T ?_
    refine RL.p T ?_
    refine RL.c fun53 (fun hs => SC.wk (down bq room last a n c (swapL L i (n - 1)) (by rw [swapL_len]; exact hn) hm i (n - 1) (by omega) (by omega) (H := H))) ?_
    rintro _ _ ⟨rfl, e⟩; obtain rfl := e.symm
    refine RL.p T ?_
    refine RL.nil _ _ _ _ ?_
    refine hK5 _ _ _ ?_
    refine SW.cs (fun hc1 => ?_) (fun hc1 => ?_)
    ·skip
     first
      | (exfalso; first | omega | contradiction | (clear hK5 K5; clear hK4 K4; clear hK3 K3; clear hK2 K2; clear hK1 K1; clear hK0 K0; simp at *; done))
      | (
       refine SW.region _ _ _ _ ?_
       refine RL.p T ?_
       refine RL.p T ?_
       refine RL.c fun50 (fun hs => up bq room last a n c (downL (swapL L i (n - 1)) i (n - 1)).1 hdl.symm hm i hi) ?_
       rintro _ _ e; obtain rfl := e.symm
       refine RL.nil _ _ _ _ ?_
       refine hK2 _ _ _ ?_
       refine SW.seq_k fun K6 hK6 => ?_
       first
         | rw [show upL (downL (swapL L i (n - 1)) i (n - 1)).1 i = remL L i from (by unfold remL; rw [← hn, if_neg (by omega), if_neg (by omega)])]
         | rw [show (downL (swapL L i (n - 1)) i (n - 1)).1 = remL L i from (by unfold remL; rw [← hn, if_neg (by omega), if_pos (by omega)])]
         | (have hrl : remL L i = L := (by unfold remL; rw [← hn, if_pos (by omega)])
            refine SW.wk (.var bq 73 [.int .i64 room, .int .i64 last, .slice a n c] :: .row a n c 80 13 (List.flatMap EnC (remL L i)) :: H) ?_ (hs := by rw [hrl]; exact SubL.refl _))
       refine SW.region _ _ _ _ ?_
       refine RL.p T ?_
       refine RL.s (NV.sat (fun hs => NV.inv rfl rfl rfl (fun w hw => run_method_ptr (P := Try.prog) (name := "Pop") (f := 110) rfl rfl rfl rfl rfl Try.prog.types.size) fun110 rfl (mPop bq room last a n c (remL L i) (by omega) hm (by omega)) ?_) (fun c hc => by cases hc))
       rintro _ _ ⟨e, rfl, rfl, eq⟩; obtain rfl := eq.symm
       refine RL.p T ?_
       refine RL.nil _ _ _ _ ?_
       refine hK6 _ _ _ ?_
       refine SW.ret ?_
       refine retQ.rr ((.var bq 73 [.int .i64 room, .int .i64 last, .slice a (n - 1) c] :: .row a (n - 1) c 80 13 (List.flatMap EnC ((remL L i).take (n - 1))) :: H)) ?_
       clear hK6 K6 hK5 K5 hK4 K4 hK3 K3 hK2 K2 hK1 K1 hK0 K0
       exact ⟨rfl, rfl⟩
       )
    ·skip
     first
      | (exfalso; first | omega | contradiction | (clear hK5 K5; clear hK4 K4; clear hK3 K3; clear hK2 K2; clear hK1 K1; clear hK0 K0; simp at *; done))
      | (
       refine SW.skip ?_
       refine hK2 _ _ _ ?_
       refine SW.seq_k fun K7 hK7 => ?_
       first
         | rw [show upL (downL (swapL L i (n - 1)) i (n - 1)).1 i = remL L i from (by unfold remL; rw [← hn, if_neg (by omega), if_neg (by omega)])]
         | rw [show (downL (swapL L i (n - 1)) i (n - 1)).1 = remL L i from (by unfold remL; rw [← hn, if_neg (by omega), if_pos (by omega)])]
         | (have hrl : remL L i = L := (by unfold remL; rw [← hn, if_pos (by omega)])
            refine SW.wk (.var bq 73 [.int .i64 room, .int .i64 last, .slice a n c] :: .row a n c 80 13 (List.flatMap EnC (remL L i)) :: H) ?_ (hs := by rw [hrl]; exact SubL.refl _))
       refine SW.region _ _ _ _ ?_
       refine RL.p T ?_
       refine RL.s (NV.sat (fun hs => NV.inv rfl rfl rfl (fun w hw => run_method_ptr (P := Try.prog) (name := "Pop") (f := 110) rfl rfl rfl rfl rfl Try.prog.types.size) fun110 rfl (mPop bq room last a n c (remL L i) (by omega) hm (by omega)) ?_) (fun c hc => by cases hc))
       rintro _ _ ⟨e, rfl, rfl, eq⟩; obtain rfl := eq.symm
       refine RL.p T ?_
       refine RL.nil _ _ _ _ ?_
       refine hK7 _ _ _ ?_
       refine SW.ret ?_
       refine retQ.rr ((.var bq 73 [.int .i64 room, .int .i64 last, .slice a (n - 1) c] :: .row a (n - 1) c 80 13 (List.flatMap EnC ((remL L i).take (n - 1))) :: H)) ?_
       clear hK7 K7 hK5 K5 hK4 K4 hK3 K3 hK2 K2 hK1 K1 hK0 K0
       exact ⟨rfl, rfl⟩
       )
    )
 ·skip
  first
   | (exfalso; first | omega | contradiction | (clear hK3 K3; clear hK2 K2; clear hK1 K1; clear hK0 K0; simp at *; done))
   | (
    refine SW.skip ?_
    refine hK2 _ _ _ ?_
    refine SW.seq_k fun K8 hK8 => ?_
    first
      | rw [show upL (downL (swapL L i (n - 1)) i (n - 1)).1 i = remL L i from (by unfold remL; rw [← hn, if_neg (by omega), if_neg (by omega)])]
      | rw [show (downL (swapL L i (n - 1)) i (n - 1)).1 = remL L i from (by unfold remL; rw [← hn, if_neg (by omega), if_pos (by omega)])]
      | (have hrl : remL L i = L := (by unfold remL; rw [← hn, if_pos (by omega)])
         refine SW.wk (.var bq 73 [.int .i64 room, .int .i64 last, .slice a n c] :: .row a n c 80 13 (List.flatMap EnC (remL L i)) :: H) ?_ (hs := by rw [hrl]; exact SubL.refl _))
    refine SW.region _ _ _ _ ?_
    refine RL.p T ?_
    refine RL.s (NV.sat (fun hs => NV.inv rfl rfl rfl (fun w hw => run_method_ptr (P := Try.prog) (name := "Pop") (f := 110) rfl rfl rfl rfl rfl Try.prog.types.size) fun110 rfl (mPop bq room last a n c (remL L i) (by omega) hm (by omega)) ?_) (fun c hc => by cases hc))
    rintro _ _ ⟨e, rfl, rfl, eq⟩; obtain rfl := eq.symm
    refine RL.p T ?_
    refine RL.nil _ _ _ _ ?_
    refine hK8 _ _ _ ?_
    refine SW.ret ?_
    refine retQ.rr ((.var bq 73 [.int .i64 room, .int .i64 last, .slice a (n - 1) c] :: .row a (n - 1) c 80 13 (List.flatMap EnC ((remL L i).take (n - 1))) :: H)) ?_
    clear hK8 K8 hK3 K3 hK2 K2 hK1 K1 hK0 K0
    exact ⟨rfl, rfl⟩
    )
end Go.Proofs.Ytjemdjjmpgjieaa.M
