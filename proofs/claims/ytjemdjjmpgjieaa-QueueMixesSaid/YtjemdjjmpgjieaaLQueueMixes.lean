import Derived.Test.YtjemdjjmpgjieaaProg
import Derived.Test.YtjemdjjmpgjieaaFM14
import Derived.Test.YtjemdjjmpgjieaaS37
import Derived.Test.YtjemdjjmpgjieaaP14b
set_option linter.unusedVariables false
set_option linter.unusedSimpArgs false
namespace Go.Proofs.Ytjemdjjmpgjieaa.M
open Go Go.Sep Go.Proofs
set_option maxRecDepth 10000
set_option maxHeartbeats 2000000
theorem it_get {out : List It} {i : Nat} (h : i < out.length) : out[i]? = some (out.getD i default) := by rw [List.getD_eq_getElem?_getD, List.getElem?_eq_getElem h]; rfl
theorem it_mem {out : List It} {i : Nat} (h : i < out.length) : out.getD i default ∈ out := List.mem_of_getElem? (it_get h)
theorem it_map {out : List It} {S : List En} {i : Nat} (h : out.map itP = S.map enP) (hi : i < out.length) : (out.getD i default).no = (gE S i).no ∧ (out.getD i default).fs.f = (gE S i).fs.f := by
  have hl : out.length = S.length := by have := congrArg List.length h; simpa using this
  have := congrArg (fun l => l[i]?) h
  simp only [List.getElem?_map] at this
  rw [it_get hi, gE_get (by omega)] at this
  have e := Option.some.inj this
  exact ⟨congrArg Prod.fst e, congrArg Prod.snd e⟩
theorem cmpI_le {x y : Int} : (cmpI x y ≤ 0 ↔ x ≤ y) ∧ (cmpI x y = 0 ↔ x = y) := by
  unfold cmpI; split <;> (try split) <;> omega
theorem getB {bs : List Bool} {k : Nat} (h : k < bs.length) : (bs.map Value.bool)[k]? = some (.bool (bs.getD k false)) := by
  rw [List.getElem?_map, List.getD_eq_getElem?_getD, List.getElem?_eq_getElem h]; rfl
theorem flat_bools : ∀ (es : List Bool), es.flatMap (fun z => [Value.bool z]) = es.map Value.bool
  | [] => rfl
  | e :: es => by rw [List.flatMap_cons, flat_bools es]; rfl
theorem mix_le {w0 : World} {G : List Chunk} {last : Int} {L S : List En} {out : List It} {it : It} {k : Nat} (h : QI w0 L last G) (hp : S.Perm L) (hs : SortedE S) (ho : out.map itP = S.map enP) (hk : k < out.length) (h1 : it.no = (gE L 0).no) (h2 : it.fs.f = (gE L 0).fs.f) :
    chkF it.fs.f = 0 ∧ chkF (out.getD k default).fs.f = 0 ∧ (keyF it.fs.f < keyF (out.getD k default).fs.f ∨ (keyF it.fs.f = keyF (out.getD k default).fs.f ∧ it.no ≤ (out.getD k default).no)) := by
  have hl : out.length = S.length := by have := congrArg List.length ho; simpa using this
  have hl2 := hp.length_eq
  obtain ⟨a1, a2⟩ := it_map ho hk
  have hf := first_is h.heap h.nd hs hp (by omega)
  have hle : leE (gE S 0) (gE S k) := by
    rcases Nat.eq_zero_or_pos k with h0 | h0
    · subst h0; exact leE.refl _
    · exact hs 0 k h0 (by omega)
  obtain ⟨_, _, b3, b4, _⟩ := h.ok _ (gE_in (L := L) (i := 0) (by omega))
  obtain ⟨_, _, c3, c4, _⟩ := h.ok _ (hp.mem_iff.1 (gE_in (L := S) (i := k) (by omega)))
  rw [hf, leE_iff, b3, c3] at hle
  rw [a1, a2, h1, h2]
  exact ⟨b4, c4, hle⟩
theorem take_len {L L2 : List En} {n n2 : Nat} {er no : Int} {it : It} {D : List Chunk} {w0 : World} {G : List Chunk} {last : Int} (hn : n = L.length) (hq : QI w0 L last G) (h1 : (n = 0 ∧ er = 9 ∧ n2 = 0) ∨ (0 < n ∧ er = 0 ∧ n2 = n - 1))
    (h2 : (n = 0 ∧ L2 = L ∧ D = []) ∨ (0 < n ∧ L2 = (popL L).take (L.length - 1) ∧ it.no = (gE L 0).no ∧ it.fs.f = (gE L 0).fs.f ∧ FsOk w0 D it.fs)) : n2 = L2.length ∧ QI w0 L2 last G := by
  rcases h2 with ⟨h0, rfl, _⟩ | ⟨h0, rfl, _⟩
  · exact ⟨by omega, hq⟩
  · exact ⟨by rw [List.length_take, popL_len]; omega, hq.pop (by omega)⟩
theorem queueMixes {w0 : World} {H : List Chunk} (ls : List Fs) (sr : Option Addr) (nr cr : Nat) (hB : ∀ H, Rd w0 H sr nr cr 11 (ls.flatMap FsC)) (hnr : nr = ls.length) (hmr : nr ≤ 4398046511000) (hls : ∀ H, ∀ y ∈ ls, FsOk w0 H y) (bs : List Bool) (st : Option Addr) (nt ct : Nat) (hT : ∀ H, Rd w0 H st nt ct 1 (bs.map Value.bool)) (hnt : nt = bs.length) (hmt : nt ≤ 140737488351232) : SC Try.prog w0 8 #[.slice sr nr cr, .slice st nt ct] H (fun v H' => v = .bool true ∧ H' = H) := by
 refine SC.enter Try.func8 rfl (Nat.le_of_ble_eq_true rfl) ?_
 refine SW.seq_k fun K0 hK0 => ?_
 refine SW.region _ _ _ _ ?_
 refine RL.p T ?_
 refine RL.nil _ _ _ _ ?_
 refine hK0 _ _ _ ?_
 refine SW.seq_k fun K1 hK1 => ?_
 refine SW.seq_k fun K2 hK2 => ?_
 refine SW.region _ _ _ _ ?_
 refine RL.c fun9 (fun hs => alive) ?_
 rintro _ _ ⟨rfl, e⟩; obtain rfl := e.symm
 refine RL.p T ?_
 refine RL.nil _ _ _ _ ?_
 refine hK2 _ _ _ ?_
 refine SW.cs (fun hc0 => ?_) (fun hc0 => ?_)
 ·skip
  first
   | (exfalso; first | omega | contradiction | (clear hK2 K2; clear hK1 K1; clear hK0 K0; simp at *; done))
   | (
    refine SW.seq_k fun K3 hK3 => ?_
    refine SW.region _ _ _ _ ?_
    refine RL.p T ?_
    refine RL.nil _ _ _ _ ?_
    refine hK3 _ _ _ ?_
    refine SW.ret ?_
    refine retQ.wk (H) ?_
    refine retQ.rr _ ?_ (hH := fun w hw => hw)
    clear hK3 K3 hK2 K2 hK1 K1 hK0 K0
    first
      | exact ⟨rfl, rfl⟩
      | exact ⟨boolE (decide_eq_true (by omega)), rfl⟩
    )
 ·skip
  first
   | (exfalso; first | omega | contradiction | (clear hK2 K2; clear hK1 K1; clear hK0 K0; simp at *; done))
   | (
    refine SW.skip ?_
    refine hK1 _ _ _ ?_
    refine SW.seq_k fun K4 hK4 => ?_
    refine SW.seq_k fun K5 hK5 => ?_
    refine SW.region _ _ _ _ ?_
    refine RL.p T ?_
    refine RL.p T ?_
    refine RL.p T ?_
    refine RL.nil _ _ _ _ ?_
    refine hK5 _ _ _ ?_
    refine SW.cs (fun hc1 => ?_) (fun hc1 => ?_)
    ·skip
     first
      | (exfalso; first | omega | contradiction | (clear hK5 K5; clear hK4 K4; clear hK2 K2; clear hK1 K1; clear hK0 K0; simp at *; done))
      | (
       refine SW.seq_k fun K6 hK6 => ?_
       refine SW.region _ _ _ _ ?_
       refine RL.p T ?_
       refine RL.nil _ _ _ _ ?_
       refine hK6 _ _ _ ?_
       refine SW.ret ?_
       refine retQ.wk (H) ?_
       refine retQ.rr _ ?_ (hH := fun w hw => hw)
       clear hK6 K6 hK5 K5 hK4 K4 hK2 K2 hK1 K1 hK0 K0
       first
         | exact ⟨rfl, rfl⟩
         | exact ⟨boolE (decide_eq_true (by omega)), rfl⟩
       )
    ·skip
     first
      | (exfalso; first | omega | contradiction | (clear hK5 K5; clear hK4 K4; clear hK2 K2; clear hK1 K1; clear hK0 K0; simp at *; done))
      | (
       refine SW.skip ?_
       refine hK4 _ _ _ ?_
       refine SW.seq_k fun K7 hK7 => ?_
       refine SW.region _ _ _ _ ?_
       refine RL.c fun10 (fun hs => qnew 64 (by omega)) ?_
       rintro _ _ ⟨bq, rfl, e⟩; obtain rfl := e.symm
       refine RL.p T ?_
       refine RL.p T ?_
       refine RL.p T ?_
       refine RL.p T ?_
       refine RL.p T ?_
       refine RL.nil _ _ _ _ ?_
       refine hK7 _ _ _ ?_
       refine SW.seq_k fun K8 hK8 => ?_
       refine SW.seq_k fun K9 hK9 => ?_
       refine SW.nilrow 80 13 ?_
       refine SW.wk (.var bq 73 [.int .i64 64, .int .i64 0, .slice none 0 0] :: .row none 0 0 80 13 (List.flatMap EnC ([])) :: ([] ++ H)) ?_
       refine SW.region _ _ _ _ ?_
       refine RL.p T ?_
       refine RL.p T ?_
       refine RL.p T ?_
       refine RL.nil _ _ _ _ ?_
       refine hK9 _ _ _ ?_
       refine SW.block ?_
       refine SW.loopM (fun frB mm fr ds HH => ∃ (k : Nat) (last : Int) (m : Nat) (a : Option Addr) (c : Nat) (L : List En) (G : List Chunk), mm = nr - k ∧ (k ≤ nr ∧ (m = L.length ∧ m ≤ 64 ∧ 0 ≤ last ∧ last ≤ (k : Nat) ∧ QI w0 L last G)) ∧ FrIs [4, 7, 8, 9, 10, 11, 13, 14, 15, 27, 28, 29, 30, 31, 32, 33, 34, 35, 36, 37, 38, 39, 40, 41, 42, 43, 44, 45, 46, 47, 48, 49, 50, 51, 52, 53, 54, 55, 56, 57, 58, 59, 60, 61, 62, 63, 64, 65, 66, 67, 68, 69, 70, 71, 72, 73, 74, 75, 76, 77, 78, 79, 80, 81, 82, 83, 84, 85, 86, 87, 88, 89, 90, 91, 92, 93, 94, 95, 96, 97, 98, 99, 100, 101] frB fr [(27, .int .i64 k)] ∧ ds = [] ∧ HH = (.var bq 73 [.int .i64 64, .int .i64 last, .slice a m c] :: .row a m c 80 13 (List.flatMap EnC (L)) :: (G ++ H))) (n := nr - 0) ?_ ?_
       ·exact ⟨0, 0, 0, none, 0, [], [], rfl, ⟨Nat.zero_le _, ⟨rfl, Nat.zero_le _, Int.le_refl _, Int.le_refl _, QI.nil⟩⟩, (.cons rfl (.nil (by repeat first | with_reducible exact Mx.refl | with_reducible exact Mx.mix | refine Mx.put rfl ?_ | refine Mx.upd rfl ?_ | refine Mx.updl rfl ?_ | refine Mx.fin rfl ?_ | refine Mx.inner rfl ?_ | refine Mx.none ?_ | exact Mx.refl | exact Mx.mix))), rfl, rfl⟩
       ·rintro mm fr ds HH ⟨k, last, m, a, c, L, G, rfl, ⟨hk, ⟨hLm, hmr2, hl0, hlk, hqi⟩⟩, hFr, rfl, eHH⟩
        obtain rfl := eHH.symm
        obtain ⟨frU, rfl⟩ := hFr.eq
        clear hFr
        have hx := fun HH => getF_mem (hls HH) k
        refine SW.seq_k fun K10 hK10 => ?_
        refine SW.region _ _ _ _ ?_
        refine RL.p T ?_
        refine RL.nil _ _ _ _ ?_
        refine hK10 _ _ _ ?_
        refine SW.seq_k fun K11 hK11 => ?_
        refine SW.cs (fun hc2 => ?_) (fun hc2 => ?_)
        ·skip
         first
          | (exfalso; first | omega | contradiction | (clear hK11 K11; clear hK10 K10; clear hK9 K9; clear hK8 K8; clear hK7 K7; clear hK5 K5; clear hK4 K4; clear hK2 K2; clear hK1 K1; clear hK0 K0; simp at *; done))
          | (
           refine SW.skip ?_
           refine hK11 _ _ _ ?_
           refine SW.seq_k fun K12 hK12 => ?_
           refine SW.block ?_
           refine SW.seq_k fun K13 hK13 => ?_
           refine SW.region _ _ _ _ ?_
           refine RL.p T ?_
           refine RL.ix T ?_ (hR := fun hs => (by first | exact hT _ | exact hB _ | exact (Rd.rowh hs (by repeat first | exact At.head _ _ | apply At.tail | apply At.app))))
           refine RL.leN T ?_ (hR := fun hs => (by first | exact hT _ | exact hB _ | exact (Rd.rowh hs (by repeat first | exact At.head _ _ | apply At.tail | apply At.app)))) (hvs := (by exact (rfl : _ = [_, _, _, _, _, _, _, _, _, _, _])))
           refine RL.s ?_
           refine NV.alloc T rfl rfl rfl (by exact (rfl : _ = [_, _, _, _, _, _, _, _, _, _, _])) ?_
           intro b8_0
           refine RL.p T ?_
           refine RL.s ?_
           refine NV.sN T rfl rfl rfl (by exact (rfl : _ = [_, _, _, _, _, _, _, _, _, _, _])) (by exact (rfl : _ = [_, _, _, _, _, _, _, _, _, _, _])) ?_
           refine RL.nil _ _ _ _ ?_
           refine hK13 _ _ _ ?_
           refine SW.seq_k fun K14 hK14 => ?_
           refine SW.region _ _ _ _ ?_
           refine RL.p T ?_
           refine RL.q (QV.vN T rfl rfl rfl rfl rfl (by exact (rfl : _ = [_, _, _, _, _, _, _, _, _, _, _]))) ?_
           refine RL.c fun11 (fun hs => SC.wk (putU bq 64 last a m c L hLm (by omega) (ls.getD k default) (hx _) (by omega) (by omega) (H := .var b8_0 31 [.int .i64 (ls.getD k default).f.kind, .int .u32 (ls.getD k default).f.id, .bool (ls.getD k default).f.ext, .bool (ls.getD k default).f.rtr, .bool (ls.getD k default).f.brs, .bool (ls.getD k default).f.esi, .bool (ls.getD k default).f.sec, .int .u8 (ls.getD k default).f.sdt, .int .u8 (ls.getD k default).f.vcid, .int .u32 (ls.getD k default).f.af, .slice (ls.getD k default).a (ls.getD k default).n (ls.getD k default).c] :: (G ++ H)))) ?_
           rintro _ _ ⟨no, er, last', a', n', c', L', D, rfl, e, hn', hlin, hL'⟩; obtain rfl := e.symm
           have hqi2 := hqi.put (by omega) hLm hlin hL'
           refine RL.nil _ _ _ _ ?_
           refine hK14 _ _ _ ?_
           refine SW.seq_k fun K15 hK15 => ?_
           refine SW.seq_k fun K16 hK16 => ?_
           refine SW.region _ _ _ _ ?_
           refine RL.p T ?_
           refine RL.p T ?_
           refine RL.p T ?_
           refine RL.p T ?_
           refine RL.p T ?_
           refine RL.sp 39 (fun hs0 => ?_) (fun hs0 => ?_)
           ·skip
            first
             | (exfalso; first | omega | contradiction | (clear hK16 K16; clear hK15 K15; clear hK14 K14; clear hK13 K13; clear hK12 K12; clear hK11 K11; clear hK10 K10; clear hK9 K9; clear hK8 K8; clear hK7 K7; clear hK5 K5; clear hK4 K4; clear hK2 K2; clear hK1 K1; clear hK0 K0; simp at *; done))
             | (
              refine RL.guard_no rfl rfl rfl ?_
              refine RL.guard_no rfl rfl rfl ?_
              refine RL.guard_no rfl rfl rfl ?_
              refine RL.guard_no rfl rfl rfl ?_
              refine RL.guard_no rfl rfl rfl ?_
              refine RL.p T ?_
              refine RL.nil _ _ _ _ ?_
              refine hK16 _ _ _ ?_
              refine SW.cond_t rfl ?_
              refine SW.exit ?_
              refine hK12 _ _ _ ?_
              refine SW.region _ _ _ _ ?_
              first | refine RL.ar ?_ | refine RL.p T ?_
              refine RL.p T ?_
              first
                | refine RL.wk (.var bq 73 [.int .i64 64, .int .i64 last', .slice a' n2 c'] :: .row a' n2 c' 80 13 (List.flatMap EnC (L2)) :: ((D ++ G) ++ H)) ?_
                | refine RL.wk (.var bq 73 [.int .i64 64, .int .i64 last', .slice a' n' c'] :: .row a' n' c' 80 13 (List.flatMap EnC (L')) :: ((D ++ G) ++ H)) ?_
              refine RL.nil _ _ _ _ ?_
              first
                | exact ⟨nr - (k + 1), (by omega), k + 1, last', n2, a', c', L2, D ++ G, (by rfl), ⟨by omega, ⟨hn2, by omega, by omega, by omega, hqi3⟩⟩, (.cons rfl (.nil (by repeat first | with_reducible exact Mx.refl | with_reducible exact Mx.mix | refine Mx.put rfl ?_ | refine Mx.upd rfl ?_ | refine Mx.updl rfl ?_ | refine Mx.fin rfl ?_ | refine Mx.inner rfl ?_ | refine Mx.none ?_ | exact Mx.refl | exact Mx.mix))), rfl, rfl⟩
                | exact ⟨nr - (k + 1), (by omega), k + 1, last', n', a', c', L', D ++ G, (by rfl), ⟨by omega, ⟨hn', by omega, by omega, by omega, hqi2⟩⟩, (.cons rfl (.nil (by repeat first | with_reducible exact Mx.refl | with_reducible exact Mx.mix | refine Mx.put rfl ?_ | refine Mx.upd rfl ?_ | refine Mx.updl rfl ?_ | refine Mx.fin rfl ?_ | refine Mx.inner rfl ?_ | refine Mx.none ?_ | exact Mx.refl | exact Mx.mix))), rfl, rfl⟩
              )
           ·skip
            first
             | (exfalso; first | omega | contradiction | (clear hK16 K16; clear hK15 K15; clear hK14 K14; clear hK13 K13; clear hK12 K12; clear hK11 K11; clear hK10 K10; clear hK9 K9; clear hK8 K8; clear hK7 K7; clear hK5 K5; clear hK4 K4; clear hK2 K2; clear hK1 K1; clear hK0 K0; simp at *; done))
             | (
              refine RL.p T ?_
              refine RL.p T ?_
              refine RL.ix T ?_ (hR := fun hs => (by first | exact hT _ | exact hB _ | exact (Rd.rowh hs (by repeat first | exact At.head _ _ | apply At.tail | apply At.app))))
              refine RL.le T ?_ (hR := fun hs => (by first | exact hT _ | exact hB _ | exact (Rd.rowh hs (by repeat first | exact At.head _ _ | apply At.tail | apply At.app)))) (hv := (getB (by omega)))
              refine RL.p T ?_
              refine RL.p T ?_
              refine RL.nil _ _ _ _ ?_
              refine hK16 _ _ _ ?_
              refine SW.cs (fun hc3 => ?_) (fun hc3 => ?_)
              ·skip
               first
                | (exfalso; first | omega | contradiction | (clear hK16 K16; clear hK15 K15; clear hK14 K14; clear hK13 K13; clear hK12 K12; clear hK11 K11; clear hK10 K10; clear hK9 K9; clear hK8 K8; clear hK7 K7; clear hK5 K5; clear hK4 K4; clear hK2 K2; clear hK1 K1; clear hK0 K0; simp at *; done))
                | (
                 refine SW.exit ?_
                 refine hK12 _ _ _ ?_
                 refine SW.region _ _ _ _ ?_
                 first | refine RL.ar ?_ | refine RL.p T ?_
                 refine RL.p T ?_
                 first
                   | refine RL.wk (.var bq 73 [.int .i64 64, .int .i64 last', .slice a' n2 c'] :: .row a' n2 c' 80 13 (List.flatMap EnC (L2)) :: ((D ++ G) ++ H)) ?_
                   | refine RL.wk (.var bq 73 [.int .i64 64, .int .i64 last', .slice a' n' c'] :: .row a' n' c' 80 13 (List.flatMap EnC (L')) :: ((D ++ G) ++ H)) ?_
                 refine RL.nil _ _ _ _ ?_
                 first
                   | exact ⟨nr - (k + 1), (by omega), k + 1, last', n2, a', c', L2, D ++ G, (by rfl), ⟨by omega, ⟨hn2, by omega, by omega, by omega, hqi3⟩⟩, (.cons rfl (.nil (by repeat first | with_reducible exact Mx.refl | with_reducible exact Mx.mix | refine Mx.put rfl ?_ | refine Mx.upd rfl ?_ | refine Mx.updl rfl ?_ | refine Mx.fin rfl ?_ | refine Mx.inner rfl ?_ | refine Mx.none ?_ | exact Mx.refl | exact Mx.mix))), rfl, rfl⟩
                   | exact ⟨nr - (k + 1), (by omega), k + 1, last', n', a', c', L', D ++ G, (by rfl), ⟨by omega, ⟨hn', by omega, by omega, by omega, hqi2⟩⟩, (.cons rfl (.nil (by repeat first | with_reducible exact Mx.refl | with_reducible exact Mx.mix | refine Mx.put rfl ?_ | refine Mx.upd rfl ?_ | refine Mx.updl rfl ?_ | refine Mx.fin rfl ?_ | refine Mx.inner rfl ?_ | refine Mx.none ?_ | exact Mx.refl | exact Mx.mix))), rfl, rfl⟩
                 )
              ·skip
               first
                | (exfalso; first | omega | contradiction | (clear hK16 K16; clear hK15 K15; clear hK14 K14; clear hK13 K13; clear hK12 K12; clear hK11 K11; clear hK10 K10; clear hK9 K9; clear hK8 K8; clear hK7 K7; clear hK5 K5; clear hK4 K4; clear hK2 K2; clear hK1 K1; clear hK0 K0; simp at *; done))
                | (
                 refine SW.skip ?_
                 refine hK15 _ _ _ ?_
                 refine SW.seq_k fun K17 hK17 => ?_
                 refine SW.wk (.var bq 73 [.int .i64 64, .int .i64 last', .slice a' n' c'] :: .row a' n' c' 80 13 (List.flatMap EnC (L')) :: ((D ++ G) ++ H)) ?_
                 refine SW.region _ _ _ _ ?_
                 refine RL.p T ?_
                 refine RL.c fun26 (fun hs => SC.wk (qall bq 64 last' a' n' c' L' hn' (by omega) (fun q hq => (hqi2.fs q hq).sub SubL.by) (H := ((D ++ G) ++ H)))) ?_
                 rintro _ _ ⟨oa, oc, out, S, G2, rfl, hol, hpm, hst, hop, hog, e⟩; obtain rfl := e.symm
                 refine RL.p T ?_
                 refine RL.nil _ _ _ _ ?_
                 refine hK17 _ _ _ ?_
                 refine SW.seq_k fun K18 hK18 => ?_
                 refine SW.region _ _ _ _ ?_
                 refine RL.p T ?_
                 refine RL.c fun14 (fun hs => SC.wk (takeU bq 64 last' a' n' c' L' hn' (by omega) (fun q hq => (hqi2.fs q hq).sub SubL.by) (H := .row oa n' oc 37 12 (List.flatMap ItC out) :: (G2 ++ ((D ++ G) ++ H))))) ?_
                 rintro _ _ ⟨it, er, n2, L2, D2, rfl, e, hen, hL2⟩; obtain rfl := e.symm
                 obtain ⟨hn2, hqi3⟩ := take_len (no := 0) hn' hqi2 hen hL2
                 refine RL.p T ?_
                 refine RL.p T ?_
                 refine RL.p T ?_
                 refine RL.s ?_
                 refine NV.alloc T rfl rfl rfl (by exact (rfl : _ = [_, _, _, _, _, _, _, _, _, _, _, _])) ?_
                 intro b10_1
                 refine RL.s ?_
                 refine NV.sN T rfl rfl rfl (by exact (rfl : _ = [_, _, _, _, _, _, _, _, _, _, _, _])) (by exact (rfl : _ = [_, _, _, _, _, _, _, _, _, _, _, _])) ?_
                 refine RL.p T ?_
                 refine RL.nil _ _ _ _ ?_
                 refine hK18 _ _ _ ?_
                 refine SW.seq_k fun K19 hK19 => ?_
                 refine SW.seq_k fun K20 hK20 => ?_
                 refine SW.region _ _ _ _ ?_
                 refine RL.p T ?_
                 refine RL.p T ?_
                 refine RL.p T ?_
                 refine RL.nil _ _ _ _ ?_
                 refine hK20 _ _ _ ?_
                 refine SW.cs (fun hc4 => ?_) (fun hc4 => ?_)
                 ·skip
                  first
                   | (exfalso; first | omega | contradiction | (clear hK20 K20; clear hK19 K19; clear hK18 K18; clear hK17 K17; clear hK16 K16; clear hK15 K15; clear hK14 K14; clear hK13 K13; clear hK12 K12; clear hK11 K11; clear hK10 K10; clear hK9 K9; clear hK8 K8; clear hK7 K7; clear hK5 K5; clear hK4 K4; clear hK2 K2; clear hK1 K1; clear hK0 K0; simp at *; done))
                   | (
                    refine SW.seq_k fun K21 hK21 => ?_
                    refine SW.seq_k fun K22 hK22 => ?_
                    refine SW.region _ _ _ _ ?_
                    refine RL.p T ?_
                    refine RL.p T ?_
                    refine RL.nil _ _ _ _ ?_
                    refine hK22 _ _ _ ?_
                    refine SW.cs (fun hc5 => ?_) (fun hc5 => ?_)
                    ·skip
                     first
                      | (exfalso; first | omega | contradiction | (clear hK22 K22; clear hK21 K21; clear hK20 K20; clear hK19 K19; clear hK18 K18; clear hK17 K17; clear hK16 K16; clear hK15 K15; clear hK14 K14; clear hK13 K13; clear hK12 K12; clear hK11 K11; clear hK10 K10; clear hK9 K9; clear hK8 K8; clear hK7 K7; clear hK5 K5; clear hK4 K4; clear hK2 K2; clear hK1 K1; clear hK0 K0; simp at *; done))
                      | (
                       refine SW.seq_k fun K23 hK23 => ?_
                       refine SW.region _ _ _ _ ?_
                       refine RL.p T ?_
                       refine RL.nil _ _ _ _ ?_
                       refine hK23 _ _ _ ?_
                       refine SW.ret ?_
                       refine retQ.wk (H) ?_
                       refine retQ.rr _ ?_ (hH := fun w hw => hw)
                       clear hK23 K23 hK22 K22 hK21 K21 hK20 K20 hK19 K19 hK18 K18 hK17 K17 hK16 K16 hK15 K15 hK14 K14 hK13 K13 hK12 K12 hK11 K11 hK10 K10 hK9 K9 hK8 K8 hK7 K7 hK5 K5 hK4 K4 hK2 K2 hK1 K1 hK0 K0
                       first
                         | exact ⟨rfl, rfl⟩
                         | exact ⟨boolE (decide_eq_true (by omega)), rfl⟩
                       )
                    ·skip
                     first
                      | (exfalso; first | omega | contradiction | (clear hK22 K22; clear hK21 K21; clear hK20 K20; clear hK19 K19; clear hK18 K18; clear hK17 K17; clear hK16 K16; clear hK15 K15; clear hK14 K14; clear hK13 K13; clear hK12 K12; clear hK11 K11; clear hK10 K10; clear hK9 K9; clear hK8 K8; clear hK7 K7; clear hK5 K5; clear hK4 K4; clear hK2 K2; clear hK1 K1; clear hK0 K0; simp at *; done))
                      | (
                       refine SW.skip ?_
                       refine hK21 _ _ _ ?_
                       refine SW.exit ?_
                       refine hK12 _ _ _ ?_
                       refine SW.region _ _ _ _ ?_
                       first | refine RL.ar ?_ | refine RL.p T ?_
                       refine RL.p T ?_
                       first
                         | refine RL.wk (.var bq 73 [.int .i64 64, .int .i64 last', .slice a' n2 c'] :: .row a' n2 c' 80 13 (List.flatMap EnC (L2)) :: ((D ++ G) ++ H)) ?_
                         | refine RL.wk (.var bq 73 [.int .i64 64, .int .i64 last', .slice a' n' c'] :: .row a' n' c' 80 13 (List.flatMap EnC (L')) :: ((D ++ G) ++ H)) ?_
                       refine RL.nil _ _ _ _ ?_
                       first
                         | exact ⟨nr - (k + 1), (by omega), k + 1, last', n2, a', c', L2, D ++ G, (by rfl), ⟨by omega, ⟨hn2, by omega, by omega, by omega, hqi3⟩⟩, (.cons rfl (.nil (by repeat first | with_reducible exact Mx.refl | with_reducible exact Mx.mix | refine Mx.put rfl ?_ | refine Mx.upd rfl ?_ | refine Mx.updl rfl ?_ | refine Mx.fin rfl ?_ | refine Mx.inner rfl ?_ | refine Mx.none ?_ | exact Mx.refl | exact Mx.mix))), rfl, rfl⟩
                         | exact ⟨nr - (k + 1), (by omega), k + 1, last', n', a', c', L', D ++ G, (by rfl), ⟨by omega, ⟨hn', by omega, by omega, by omega, hqi2⟩⟩, (.cons rfl (.nil (by repeat first | with_reducible exact Mx.refl | with_reducible exact Mx.mix | refine Mx.put rfl ?_ | refine Mx.upd rfl ?_ | refine Mx.updl rfl ?_ | refine Mx.fin rfl ?_ | refine Mx.inner rfl ?_ | refine Mx.none ?_ | exact Mx.refl | exact Mx.mix))), rfl, rfl⟩
                       )
                    )
                 ·skip
                  first
                   | (exfalso; first | omega | contradiction | (clear hK20 K20; clear hK19 K19; clear hK18 K18; clear hK17 K17; clear hK16 K16; clear hK15 K15; clear hK14 K14; clear hK13 K13; clear hK12 K12; clear hK11 K11; clear hK10 K10; clear hK9 K9; clear hK8 K8; clear hK7 K7; clear hK5 K5; clear hK4 K4; clear hK2 K2; clear hK1 K1; clear hK0 K0; simp at *; done))
                   | (
                    refine SW.skip ?_
                    refine hK19 _ _ _ ?_
                    refine SW.seq_k fun K24 hK24 => ?_
                    refine SW.seq_k fun K25 hK25 => ?_
                    refine SW.region _ _ _ _ ?_
                    refine RL.p T ?_
                    refine RL.p T ?_
                    refine RL.p T ?_
                    refine RL.nil _ _ _ _ ?_
                    refine hK25 _ _ _ ?_
                    refine SW.block ?_
                    refine SW.loopM (fun frB mm fr ds HH => ∃ (k1 : Nat) , mm = n' - k1 ∧ (k1 ≤ n' ∧ (True)) ∧ FrIs [4, 13, 14, 15, 60, 61, 62, 63, 64, 65, 66, 67, 68, 69, 70, 71, 72, 73, 74, 75, 76, 77, 78, 79, 80, 81, 82, 83, 84, 85, 86, 87, 88, 89, 90, 91, 92, 93] frB fr [(60, .int .i64 k1)] ∧ ds = [] ∧ HH = (.var b10_1 37 [.int .i64 it.no, .int .i64 it.fs.f.kind, .int .u32 it.fs.f.id, .bool it.fs.f.ext, .bool it.fs.f.rtr, .bool it.fs.f.brs, .bool it.fs.f.esi, .bool it.fs.f.sec, .int .u8 it.fs.f.sdt, .int .u8 it.fs.f.vcid, .int .u32 it.fs.f.af, .slice it.fs.a it.fs.n it.fs.c] :: .var bq 73 [.int .i64 64, .int .i64 last', .slice a' n2 c'] :: .row a' n2 c' 80 13 (List.flatMap EnC (L2)) :: (D2 ++ (.row oa n' oc 37 12 (List.flatMap ItC out) :: (G2 ++ ((D ++ G) ++ H)))))) (n := n' - 0) ?_ ?_
                    ·exact ⟨0, rfl, ⟨Nat.zero_le _, trivial⟩, (.cons rfl (.nil (by repeat first | with_reducible exact Mx.refl | with_reducible exact Mx.mix | refine Mx.put rfl ?_ | refine Mx.upd rfl ?_ | refine Mx.updl rfl ?_ | refine Mx.fin rfl ?_ | refine Mx.inner rfl ?_ | refine Mx.none ?_ | exact Mx.refl | exact Mx.mix))), rfl, rfl⟩
                    ·rintro mm fr ds HH ⟨k1, rfl, ⟨hk1, _⟩, hFr, rfl, eHH⟩
                     obtain rfl := eHH.symm
                     obtain ⟨frU, rfl⟩ := hFr.eq
                     clear hFr
                     refine SW.seq_k fun K26 hK26 => ?_
                     refine SW.region _ _ _ _ ?_
                     refine RL.p T ?_
                     refine RL.nil _ _ _ _ ?_
                     refine hK26 _ _ _ ?_
                     refine SW.seq_k fun K27 hK27 => ?_
                     refine SW.cs (fun hc6 => ?_) (fun hc6 => ?_)
                     ·skip
                      first
                       | (exfalso; first | omega | contradiction | (clear hK27 K27; clear hK26 K26; clear hK25 K25; clear hK24 K24; clear hK20 K20; clear hK19 K19; clear hK18 K18; clear hK17 K17; clear hK16 K16; clear hK15 K15; clear hK14 K14; clear hK13 K13; clear hK12 K12; clear hK11 K11; clear hK10 K10; clear hK9 K9; clear hK8 K8; clear hK7 K7; clear hK5 K5; clear hK4 K4; clear hK2 K2; clear hK1 K1; clear hK0 K0; simp at *; done))
                       | (
                        refine SW.skip ?_
                        refine hK27 _ _ _ ?_
                        refine SW.seq_k fun K28 hK28 => ?_
                        refine SW.block ?_
                        refine SW.seq_k fun K29 hK29 => ?_
                        obtain ⟨_, _, hin, hif, hio⟩ : 0 < n' ∧ L2 = (popL L').take (L'.length - 1) ∧ it.no = (gE L' 0).no ∧ it.fs.f = (gE L' 0).fs.f ∧ FsOk w0 D2 it.fs := hL2.resolve_left (by omega)
                        obtain ⟨hc1, hc2, hle⟩ := mix_le (k := k1) hqi2 hpm hst hop (by omega) hin hif
                        have hoz := hog _ (it_mem (i := k1) (by omega))
                        obtain ⟨hc7, hc8⟩ := cmpI_le (x := keyF it.fs.f) (y := keyF (out.getD k1 default).fs.f)
                        refine SW.region _ _ _ _ ?_
                        refine RL.ix T ?_ (hR := fun hs => (by first | exact hT _ | exact hB _ | exact (Rd.rowh hs (by repeat first | exact At.head _ _ | apply At.tail | apply At.app))))
                        refine RL.leN (enc := ItC) (rs := out) T ?_ (hR := fun hs => (Rd.rowh hs (by repeat first | exact At.head _ _ | apply At.tail | apply At.app))) (hq := it_get (i := k1) (by omega)) (hvs := rfl)
                        refine RL.s ?_
                        refine NV.alloc T rfl rfl rfl (by exact (rfl : _ = [_, _, _, _, _, _, _, _, _, _, _, _])) ?_
                        intro b13_2
                        refine RL.s ?_
                        refine NV.sN T rfl rfl rfl (by exact (rfl : _ = [_, _, _, _, _, _, _, _, _, _, _, _])) (by exact (rfl : _ = [_, _, _, _, _, _, _, _, _, _, _, _])) ?_
                        refine RL.nil _ _ _ _ ?_
                        refine hK29 _ _ _ ?_
                        refine SW.seq_k fun K30 hK30 => ?_
                        refine SW.region _ _ _ _ ?_
                        refine RL.p T ?_
                        refine RL.q (QV.vN T rfl rfl rfl rfl rfl (by exact (rfl : _ = [_, _, _, _, _, _, _, _, _, _, _]))) ?_
                        refine RL.p T ?_
                        refine RL.q (QV.vN T rfl rfl rfl rfl rfl (by exact (rfl : _ = [_, _, _, _, _, _, _, _, _, _, _]))) ?_
                        refine RL.c fun30 (fun hs => compareF it.fs (out.getD k1 default).fs (hio.sub SubL.by) (hoz.sub SubL.by) hc1 hc2) ?_
                        rintro _ _ ⟨rfl, e⟩; obtain rfl := e.symm
                        refine RL.p T ?_
                        refine RL.p T ?_
                        refine RL.p T ?_
                        refine RL.p T ?_
                        refine RL.p T ?_
                        skip
                        refine RL.nil _ _ _ _ ?_
                        refine hK30 _ _ _ ?_
                        refine SW.seq_k fun K31 hK31 => ?_
                        refine SW.region _ _ _ _ ?_
                        refine RL.p T ?_
                        refine RL.p T ?_
                        refine RL.p T ?_
                        refine RL.sp 74 (fun hs1 => ?_) (fun hs1 => ?_)
                        ·skip
                         first
                          | (exfalso; first | omega | contradiction | (clear hK31 K31; clear hK30 K30; clear hK29 K29; clear hK28 K28; clear hK27 K27; clear hK26 K26; clear hK25 K25; clear hK24 K24; clear hK20 K20; clear hK19 K19; clear hK18 K18; clear hK17 K17; clear hK16 K16; clear hK15 K15; clear hK14 K14; clear hK13 K13; clear hK12 K12; clear hK11 K11; clear hK10 K10; clear hK9 K9; clear hK8 K8; clear hK7 K7; clear hK5 K5; clear hK4 K4; clear hK2 K2; clear hK1 K1; clear hK0 K0; simp at *; done))
                          | (
                           refine RL.guard_no rfl rfl rfl ?_
                           refine RL.guard_no rfl rfl rfl ?_
                           refine RL.p T ?_
                           refine RL.p T ?_
                           refine RL.guard_no rfl rfl rfl ?_
                           refine RL.guard_no rfl rfl rfl ?_
                           refine RL.p T ?_
                           refine RL.p T ?_
                           refine RL.guard_no rfl rfl rfl ?_
                           refine RL.guard_no rfl rfl rfl ?_
                           refine RL.guard_no rfl rfl rfl ?_
                           refine RL.guard_no rfl rfl rfl ?_
                           refine RL.guard_no rfl rfl rfl ?_
                           refine RL.guard_no rfl rfl rfl ?_
                           refine RL.guard_no rfl rfl rfl ?_
                           refine RL.guard_no rfl rfl rfl ?_
                           refine RL.guard_no rfl rfl rfl ?_
                           refine RL.p T ?_
                           refine RL.nil _ _ _ _ ?_
                           refine hK31 _ _ _ ?_
                           refine SW.cond_t rfl ?_
                           refine SW.seq_k fun K32 hK32 => ?_
                           refine SW.region _ _ _ _ ?_
                           refine RL.p T ?_
                           refine RL.nil _ _ _ _ ?_
                           refine hK32 _ _ _ ?_
                           refine SW.ret ?_
                           refine retQ.wk (H) ?_
                           refine retQ.rr _ ?_ (hH := fun w hw => hw)
                           clear hK32 K32 hK31 K31 hK30 K30 hK29 K29 hK28 K28 hK27 K27 hK26 K26 hK25 K25 hK24 K24 hK20 K20 hK19 K19 hK18 K18 hK17 K17 hK16 K16 hK15 K15 hK14 K14 hK13 K13 hK12 K12 hK11 K11 hK10 K10 hK9 K9 hK8 K8 hK7 K7 hK5 K5 hK4 K4 hK2 K2 hK1 K1 hK0 K0
                           first
                             | exact ⟨rfl, rfl⟩
                             | exact ⟨boolE (decide_eq_true (by omega)), rfl⟩
                           )
                        ·skip
                         first
                          | (exfalso; first | omega | contradiction | (clear hK31 K31; clear hK30 K30; clear hK29 K29; clear hK28 K28; clear hK27 K27; clear hK26 K26; clear hK25 K25; clear hK24 K24; clear hK20 K20; clear hK19 K19; clear hK18 K18; clear hK17 K17; clear hK16 K16; clear hK15 K15; clear hK14 K14; clear hK13 K13; clear hK12 K12; clear hK11 K11; clear hK10 K10; clear hK9 K9; clear hK8 K8; clear hK7 K7; clear hK5 K5; clear hK4 K4; clear hK2 K2; clear hK1 K1; clear hK0 K0; simp at *; done))
                          | (
                           refine RL.p T ?_
                           refine RL.p T ?_
                           refine RL.p T ?_
                           refine RL.p T ?_
                           refine RL.sp 78 (fun hs2 => ?_) (fun hs2 => ?_)
                           ·skip
                            first
                             | (exfalso; first | omega | contradiction | (clear hK31 K31; clear hK30 K30; clear hK29 K29; clear hK28 K28; clear hK27 K27; clear hK26 K26; clear hK25 K25; clear hK24 K24; clear hK20 K20; clear hK19 K19; clear hK18 K18; clear hK17 K17; clear hK16 K16; clear hK15 K15; clear hK14 K14; clear hK13 K13; clear hK12 K12; clear hK11 K11; clear hK10 K10; clear hK9 K9; clear hK8 K8; clear hK7 K7; clear hK5 K5; clear hK4 K4; clear hK2 K2; clear hK1 K1; clear hK0 K0; simp at *; done))
                             | (
                              refine RL.guard_no rfl rfl rfl ?_
                              refine RL.guard_no rfl rfl rfl ?_
                              refine RL.p T ?_
                              refine RL.p T ?_
                              refine RL.guard_no rfl rfl rfl ?_
                              refine RL.guard_no rfl rfl rfl ?_
                              refine RL.guard_no rfl rfl rfl ?_
                              refine RL.guard_no rfl rfl rfl ?_
                              refine RL.guard_no rfl rfl rfl ?_
                              refine RL.guard_no rfl rfl rfl ?_
                              refine RL.guard_no rfl rfl rfl ?_
                              refine RL.guard_no rfl rfl rfl ?_
                              refine RL.guard_no rfl rfl rfl ?_
                              refine RL.p T ?_
                              refine RL.nil _ _ _ _ ?_
                              refine hK31 _ _ _ ?_
                              refine SW.cond_t rfl ?_
                              refine SW.seq_k fun K33 hK33 => ?_
                              refine SW.region _ _ _ _ ?_
                              refine RL.p T ?_
                              refine RL.nil _ _ _ _ ?_
                              refine hK33 _ _ _ ?_
                              refine SW.ret ?_
                              refine retQ.wk (H) ?_
                              refine retQ.rr _ ?_ (hH := fun w hw => hw)
                              clear hK33 K33 hK31 K31 hK30 K30 hK29 K29 hK28 K28 hK27 K27 hK26 K26 hK25 K25 hK24 K24 hK20 K20 hK19 K19 hK18 K18 hK17 K17 hK16 K16 hK15 K15 hK14 K14 hK13 K13 hK12 K12 hK11 K11 hK10 K10 hK9 K9 hK8 K8 hK7 K7 hK5 K5 hK4 K4 hK2 K2 hK1 K1 hK0 K0
                              first
                                | exact ⟨rfl, rfl⟩
                                | exact ⟨boolE (decide_eq_true (by omega)), rfl⟩
                              )
                           ·skip
                            first
                             | (exfalso; first | omega | contradiction | (clear hK31 K31; clear hK30 K30; clear hK29 K29; clear hK28 K28; clear hK27 K27; clear hK26 K26; clear hK25 K25; clear hK24 K24; clear hK20 K20; clear hK19 K19; clear hK18 K18; clear hK17 K17; clear hK16 K16; clear hK15 K15; clear hK14 K14; clear hK13 K13; clear hK12 K12; clear hK11 K11; clear hK10 K10; clear hK9 K9; clear hK8 K8; clear hK7 K7; clear hK5 K5; clear hK4 K4; clear hK2 K2; clear hK1 K1; clear hK0 K0; simp at *; done))
                             | (
                              refine RL.p T ?_
                              refine RL.p T ?_
                              refine RL.p T ?_
                              refine RL.p T ?_
                              refine RL.sp 82 (fun hs3 => ?_) (fun hs3 => ?_)
                              ·skip
                               first
                                | (exfalso; first | omega | contradiction | (clear hK31 K31; clear hK30 K30; clear hK29 K29; clear hK28 K28; clear hK27 K27; clear hK26 K26; clear hK25 K25; clear hK24 K24; clear hK20 K20; clear hK19 K19; clear hK18 K18; clear hK17 K17; clear hK16 K16; clear hK15 K15; clear hK14 K14; clear hK13 K13; clear hK12 K12; clear hK11 K11; clear hK10 K10; clear hK9 K9; clear hK8 K8; clear hK7 K7; clear hK5 K5; clear hK4 K4; clear hK2 K2; clear hK1 K1; clear hK0 K0; simp at *; done))
                                | (
                                 refine RL.guard_no rfl rfl rfl ?_
                                 refine RL.guard_no rfl rfl rfl ?_
                                 refine RL.guard_no rfl rfl rfl ?_
                                 refine RL.guard_no rfl rfl rfl ?_
                                 refine RL.guard_no rfl rfl rfl ?_
                                 refine RL.guard_no rfl rfl rfl ?_
                                 refine RL.guard_no rfl rfl rfl ?_
                                 refine RL.guard_no rfl rfl rfl ?_
                                 refine RL.guard_no rfl rfl rfl ?_
                                 refine RL.p T ?_
                                 refine RL.nil _ _ _ _ ?_
                                 refine hK31 _ _ _ ?_
                                 refine SW.cond_t rfl ?_
                                 refine SW.seq_k fun K34 hK34 => ?_
                                 refine SW.region _ _ _ _ ?_
                                 refine RL.p T ?_
                                 refine RL.nil _ _ _ _ ?_
                                 refine hK34 _ _ _ ?_
                                 refine SW.ret ?_
                                 refine retQ.wk (H) ?_
                                 refine retQ.rr _ ?_ (hH := fun w hw => hw)
                                 clear hK34 K34 hK31 K31 hK30 K30 hK29 K29 hK28 K28 hK27 K27 hK26 K26 hK25 K25 hK24 K24 hK20 K20 hK19 K19 hK18 K18 hK17 K17 hK16 K16 hK15 K15 hK14 K14 hK13 K13 hK12 K12 hK11 K11 hK10 K10 hK9 K9 hK8 K8 hK7 K7 hK5 K5 hK4 K4 hK2 K2 hK1 K1 hK0 K0
                                 first
                                   | exact ⟨rfl, rfl⟩
                                   | exact ⟨boolE (decide_eq_true (by omega)), rfl⟩
                                 )
                              ·skip
                               first
                                | (exfalso; first | omega | contradiction | (clear hK31 K31; clear hK30 K30; clear hK29 K29; clear hK28 K28; clear hK27 K27; clear hK26 K26; clear hK25 K25; clear hK24 K24; clear hK20 K20; clear hK19 K19; clear hK18 K18; clear hK17 K17; clear hK16 K16; clear hK15 K15; clear hK14 K14; clear hK13 K13; clear hK12 K12; clear hK11 K11; clear hK10 K10; clear hK9 K9; clear hK8 K8; clear hK7 K7; clear hK5 K5; clear hK4 K4; clear hK2 K2; clear hK1 K1; clear hK0 K0; simp at *; done))
                                | (
                                 refine RL.p T ?_
                                 refine RL.p T ?_
                                 refine RL.p T ?_
                                 refine RL.sp 85 (fun hs4 => ?_) (fun hs4 => ?_)
                                 ·skip
                                  first
                                   | (exfalso; first | omega | contradiction | (clear hK31 K31; clear hK30 K30; clear hK29 K29; clear hK28 K28; clear hK27 K27; clear hK26 K26; clear hK25 K25; clear hK24 K24; clear hK20 K20; clear hK19 K19; clear hK18 K18; clear hK17 K17; clear hK16 K16; clear hK15 K15; clear hK14 K14; clear hK13 K13; clear hK12 K12; clear hK11 K11; clear hK10 K10; clear hK9 K9; clear hK8 K8; clear hK7 K7; clear hK5 K5; clear hK4 K4; clear hK2 K2; clear hK1 K1; clear hK0 K0; simp at *; done))
                                   | (
                                    refine RL.p T ?_
                                    refine RL.lv1 T ?_
                                    refine RL.p T ?_
                                    refine RL.lv1 T ?_
                                    refine RL.p T ?_
                                    refine RL.p T ?_
                                    refine RL.p T ?_
                                    refine RL.nil _ _ _ _ ?_
                                    refine hK31 _ _ _ ?_
                                    refine SW.cs (fun hc7 => ?_) (fun hc7 => ?_)
                                    ·skip
                                     first
                                      | (exfalso; first | omega | contradiction | (clear hK31 K31; clear hK30 K30; clear hK29 K29; clear hK28 K28; clear hK27 K27; clear hK26 K26; clear hK25 K25; clear hK24 K24; clear hK20 K20; clear hK19 K19; clear hK18 K18; clear hK17 K17; clear hK16 K16; clear hK15 K15; clear hK14 K14; clear hK13 K13; clear hK12 K12; clear hK11 K11; clear hK10 K10; clear hK9 K9; clear hK8 K8; clear hK7 K7; clear hK5 K5; clear hK4 K4; clear hK2 K2; clear hK1 K1; clear hK0 K0; simp at *; done))
                                      | (
                                       refine SW.seq_k fun K35 hK35 => ?_
                                       refine SW.region _ _ _ _ ?_
                                       refine RL.p T ?_
                                       refine RL.nil _ _ _ _ ?_
                                       refine hK35 _ _ _ ?_
                                       refine SW.ret ?_
                                       refine retQ.wk (H) ?_
                                       refine retQ.rr _ ?_ (hH := fun w hw => hw)
                                       clear hK35 K35 hK31 K31 hK30 K30 hK29 K29 hK28 K28 hK27 K27 hK26 K26 hK25 K25 hK24 K24 hK20 K20 hK19 K19 hK18 K18 hK17 K17 hK16 K16 hK15 K15 hK14 K14 hK13 K13 hK12 K12 hK11 K11 hK10 K10 hK9 K9 hK8 K8 hK7 K7 hK5 K5 hK4 K4 hK2 K2 hK1 K1 hK0 K0
                                       first
                                         | exact ⟨rfl, rfl⟩
                                         | exact ⟨boolE (decide_eq_true (by omega)), rfl⟩
                                       )
                                    ·skip
                                     first
                                      | (exfalso; first | omega | contradiction | (clear hK31 K31; clear hK30 K30; clear hK29 K29; clear hK28 K28; clear hK27 K27; clear hK26 K26; clear hK25 K25; clear hK24 K24; clear hK20 K20; clear hK19 K19; clear hK18 K18; clear hK17 K17; clear hK16 K16; clear hK15 K15; clear hK14 K14; clear hK13 K13; clear hK12 K12; clear hK11 K11; clear hK10 K10; clear hK9 K9; clear hK8 K8; clear hK7 K7; clear hK5 K5; clear hK4 K4; clear hK2 K2; clear hK1 K1; clear hK0 K0; simp at *; done))
                                      | (
                                       refine SW.skip ?_
                                       refine hK28 _ _ _ ?_
                                       refine SW.region _ _ _ _ ?_
                                       first | refine RL.ar ?_ | refine RL.p T ?_
                                       refine RL.p T ?_
                                       refine RL.wk (.var b10_1 37 [.int .i64 it.no, .int .i64 it.fs.f.kind, .int .u32 it.fs.f.id, .bool it.fs.f.ext, .bool it.fs.f.rtr, .bool it.fs.f.brs, .bool it.fs.f.esi, .bool it.fs.f.sec, .int .u8 it.fs.f.sdt, .int .u8 it.fs.f.vcid, .int .u32 it.fs.f.af, .slice it.fs.a it.fs.n it.fs.c] :: .var bq 73 [.int .i64 64, .int .i64 last', .slice a' n2 c'] :: .row a' n2 c' 80 13 (List.flatMap EnC (L2)) :: (D2 ++ (.row oa n' oc 37 12 (List.flatMap ItC out) :: (G2 ++ ((D ++ G) ++ H))))) ?_
                                       refine RL.nil _ _ _ _ ?_
                                       exact ⟨n' - (k1 + 1), (by omega), k1 + 1, (by rfl), ⟨by omega, trivial⟩, (.cons rfl (.nil (by repeat first | with_reducible exact Mx.refl | with_reducible exact Mx.mix | refine Mx.put rfl ?_ | refine Mx.upd rfl ?_ | refine Mx.updl rfl ?_ | refine Mx.fin rfl ?_ | refine Mx.inner rfl ?_ | refine Mx.none ?_ | exact Mx.refl | exact Mx.mix))), rfl, rfl⟩
                                       )
                                    )
                                 ·skip
                                  first
                                   | (exfalso; first | omega | contradiction | (clear hK31 K31; clear hK30 K30; clear hK29 K29; clear hK28 K28; clear hK27 K27; clear hK26 K26; clear hK25 K25; clear hK24 K24; clear hK20 K20; clear hK19 K19; clear hK18 K18; clear hK17 K17; clear hK16 K16; clear hK15 K15; clear hK14 K14; clear hK13 K13; clear hK12 K12; clear hK11 K11; clear hK10 K10; clear hK9 K9; clear hK8 K8; clear hK7 K7; clear hK5 K5; clear hK4 K4; clear hK2 K2; clear hK1 K1; clear hK0 K0; simp at *; done))
                                   | (
                                    refine RL.guard_no rfl rfl rfl ?_
                                    refine RL.guard_no rfl rfl rfl ?_
                                    refine RL.guard_no rfl rfl rfl ?_
                                    refine RL.guard_no rfl rfl rfl ?_
                                    refine RL.guard_no rfl rfl rfl ?_
                                    refine RL.p T ?_
                                    refine RL.p T ?_
                                    refine RL.nil _ _ _ _ ?_
                                    refine hK31 _ _ _ ?_
                                    refine SW.cond_f rfl ?_
                                    refine SW.skip ?_
                                    refine hK28 _ _ _ ?_
                                    refine SW.region _ _ _ _ ?_
                                    first | refine RL.ar ?_ | refine RL.p T ?_
                                    refine RL.p T ?_
                                    refine RL.wk (.var b10_1 37 [.int .i64 it.no, .int .i64 it.fs.f.kind, .int .u32 it.fs.f.id, .bool it.fs.f.ext, .bool it.fs.f.rtr, .bool it.fs.f.brs, .bool it.fs.f.esi, .bool it.fs.f.sec, .int .u8 it.fs.f.sdt, .int .u8 it.fs.f.vcid, .int .u32 it.fs.f.af, .slice it.fs.a it.fs.n it.fs.c] :: .var bq 73 [.int .i64 64, .int .i64 last', .slice a' n2 c'] :: .row a' n2 c' 80 13 (List.flatMap EnC (L2)) :: (D2 ++ (.row oa n' oc 37 12 (List.flatMap ItC out) :: (G2 ++ ((D ++ G) ++ H))))) ?_
                                    refine RL.nil _ _ _ _ ?_
                                    exact ⟨n' - (k1 + 1), (by omega), k1 + 1, (by rfl), ⟨by omega, trivial⟩, (.cons rfl (.nil (by repeat first | with_reducible exact Mx.refl | with_reducible exact Mx.mix | refine Mx.put rfl ?_ | refine Mx.upd rfl ?_ | refine Mx.updl rfl ?_ | refine Mx.fin rfl ?_ | refine Mx.inner rfl ?_ | refine Mx.none ?_ | exact Mx.refl | exact Mx.mix))), rfl, rfl⟩
                                    )
                                 )
                              )
                           )
                        )
                     ·skip
                      first
                       | (exfalso; first | omega | contradiction | (clear hK27 K27; clear hK26 K26; clear hK25 K25; clear hK24 K24; clear hK20 K20; clear hK19 K19; clear hK18 K18; clear hK17 K17; clear hK16 K16; clear hK15 K15; clear hK14 K14; clear hK13 K13; clear hK12 K12; clear hK11 K11; clear hK10 K10; clear hK9 K9; clear hK8 K8; clear hK7 K7; clear hK5 K5; clear hK4 K4; clear hK2 K2; clear hK1 K1; clear hK0 K0; simp at *; done))
                       | (
                        refine SW.exit ?_
                        refine hK24 _ _ _ ?_
                        refine SW.seq_k fun K36 hK36 => ?_
                        refine SW.region _ _ _ _ ?_
                        refine RL.p T ?_
                        refine RL.c fun26 (fun hs => SC.wk (qall bq 64 last' a' n2 c' L2 hn2 (by omega) (fun q hq => (hqi3.fs q hq).sub SubL.by) (H := ((D ++ G) ++ H)))) ?_
                        rintro _ _ ⟨oa2, oc2, out2, S2, G3, rfl, hol2, hpm2, hst2, hop2, hog2, e⟩; obtain rfl := e.symm
                        refine RL.p T ?_
                        refine RL.p T ?_
                        refine RL.p T ?_
                        first | refine RL.ar ?_ | refine RL.p T ?_
                        refine RL.p T ?_
                        refine RL.nil _ _ _ _ ?_
                        refine hK36 _ _ _ ?_
                        refine SW.cs (fun hc8 => ?_) (fun hc8 => ?_)
                        ·skip
                         first
                          | (exfalso; first | omega | contradiction | (clear hK36 K36; clear hK27 K27; clear hK26 K26; clear hK25 K25; clear hK24 K24; clear hK20 K20; clear hK19 K19; clear hK18 K18; clear hK17 K17; clear hK16 K16; clear hK15 K15; clear hK14 K14; clear hK13 K13; clear hK12 K12; clear hK11 K11; clear hK10 K10; clear hK9 K9; clear hK8 K8; clear hK7 K7; clear hK5 K5; clear hK4 K4; clear hK2 K2; clear hK1 K1; clear hK0 K0; simp at *; done))
                          | (
                           refine SW.seq_k fun K37 hK37 => ?_
                           refine SW.region _ _ _ _ ?_
                           refine RL.p T ?_
                           refine RL.nil _ _ _ _ ?_
                           refine hK37 _ _ _ ?_
                           refine SW.ret ?_
                           refine retQ.wk (H) ?_
                           refine retQ.rr _ ?_ (hH := fun w hw => hw)
                           clear hK37 K37 hK36 K36 hK27 K27 hK26 K26 hK25 K25 hK24 K24 hK20 K20 hK19 K19 hK18 K18 hK17 K17 hK16 K16 hK15 K15 hK14 K14 hK13 K13 hK12 K12 hK11 K11 hK10 K10 hK9 K9 hK8 K8 hK7 K7 hK5 K5 hK4 K4 hK2 K2 hK1 K1 hK0 K0
                           first
                             | exact ⟨rfl, rfl⟩
                             | exact ⟨boolE (decide_eq_true (by omega)), rfl⟩
                           )
                        ·skip
                         first
                          | (exfalso; first | omega | contradiction | (clear hK36 K36; clear hK27 K27; clear hK26 K26; clear hK25 K25; clear hK24 K24; clear hK20 K20; clear hK19 K19; clear hK18 K18; clear hK17 K17; clear hK16 K16; clear hK15 K15; clear hK14 K14; clear hK13 K13; clear hK12 K12; clear hK11 K11; clear hK10 K10; clear hK9 K9; clear hK8 K8; clear hK7 K7; clear hK5 K5; clear hK4 K4; clear hK2 K2; clear hK1 K1; clear hK0 K0; simp at *; done))
                          | (
                           refine SW.skip ?_
                           refine hK12 _ _ _ ?_
                           refine SW.region _ _ _ _ ?_
                           first | refine RL.ar ?_ | refine RL.p T ?_
                           refine RL.p T ?_
                           first
                             | refine RL.wk (.var bq 73 [.int .i64 64, .int .i64 last', .slice a' n2 c'] :: .row a' n2 c' 80 13 (List.flatMap EnC (L2)) :: ((D ++ G) ++ H)) ?_
                             | refine RL.wk (.var bq 73 [.int .i64 64, .int .i64 last', .slice a' n' c'] :: .row a' n' c' 80 13 (List.flatMap EnC (L')) :: ((D ++ G) ++ H)) ?_
                           refine RL.nil _ _ _ _ ?_
                           first
                             | exact ⟨nr - (k + 1), (by omega), k + 1, last', n2, a', c', L2, D ++ G, (by rfl), ⟨by omega, ⟨hn2, by omega, by omega, by omega, hqi3⟩⟩, (.cons rfl (.nil (by repeat first | with_reducible exact Mx.refl | with_reducible exact Mx.mix | refine Mx.put rfl ?_ | refine Mx.upd rfl ?_ | refine Mx.updl rfl ?_ | refine Mx.fin rfl ?_ | refine Mx.inner rfl ?_ | refine Mx.none ?_ | exact Mx.refl | exact Mx.mix))), rfl, rfl⟩
                             | exact ⟨nr - (k + 1), (by omega), k + 1, last', n', a', c', L', D ++ G, (by rfl), ⟨by omega, ⟨hn', by omega, by omega, by omega, hqi2⟩⟩, (.cons rfl (.nil (by repeat first | with_reducible exact Mx.refl | with_reducible exact Mx.mix | refine Mx.put rfl ?_ | refine Mx.upd rfl ?_ | refine Mx.updl rfl ?_ | refine Mx.fin rfl ?_ | refine Mx.inner rfl ?_ | refine Mx.none ?_ | exact Mx.refl | exact Mx.mix))), rfl, rfl⟩
                           )
                        )
                    )
                 )
              )
           )
        ·skip
         first
          | (exfalso; first | omega | contradiction | (clear hK11 K11; clear hK10 K10; clear hK9 K9; clear hK8 K8; clear hK7 K7; clear hK5 K5; clear hK4 K4; clear hK2 K2; clear hK1 K1; clear hK0 K0; simp at *; done))
          | (
           refine SW.exit ?_
           refine hK8 _ _ _ ?_
           refine SW.seq_k fun K38 hK38 => ?_
           refine SW.region _ _ _ _ ?_
           refine RL.p T ?_
           refine RL.nil _ _ _ _ ?_
           refine hK38 _ _ _ ?_
           refine SW.ret ?_
           refine retQ.wk (H) ?_
           refine retQ.rr _ ?_ (hH := fun w hw => hw)
           clear hK38 K38 hK11 K11 hK10 K10 hK9 K9 hK8 K8 hK7 K7 hK5 K5 hK4 K4 hK2 K2 hK1 K1 hK0 K0
           first
             | exact ⟨rfl, rfl⟩
             | exact ⟨boolE (decide_eq_true (by omega)), rfl⟩
           )
       )
    )
end Go.Proofs.Ytjemdjjmpgjieaa.M
