import Derived.Test.YtojghialjpianaaProg
import Derived.Test.YtojghialjpianaaFB16
set_option linter.unusedVariables false
set_option linter.unusedSimpArgs false
namespace Go.Proofs.Ytojghialjpianaa.M
open Go Go.Sep Go.Proofs
set_option maxRecDepth 10000
set_option maxHeartbeats 2000000
theorem fall {w0 : World} {H : List Chunk} (b : Nat) (R : Nat → Fs) (room first n over : Nat) (kk : Chunk → List Chunk) (hat : At H (.var b 57 (FifoC R room first n over)) kk) (L : List Fs) (hL : RingIs R first L) (hn : n = L.length) (hok : ∀ x ∈ L, FsOk w0 H x) : SC Try.prog w0 18 #[.pointer (some ⟨b, 0, none⟩)] H (fun v H' => ∃ a c out, v = .slice a n c ∧ out.length = n ∧ frs out = frs L ∧ (∀ x ∈ out, x.n = x.f.data.length) ∧ H' = .row a n c 31 11 (List.flatMap FsC out) :: (rowsOf out ++ H)) := by
 refine SC.enter Try.func18 rfl (Nat.le_of_ble_eq_true rfl) ?_
 refine SW.seq_k fun K0 hK0 => ?_
 have hlt := hL.lt
 have hl64 := hL.len
 have hget := fun k => getD_mem FsOk.dflt hok k
 refine SW.region _ _ _ _ ?_
 refine RL.p T ?_
 refine RL.nil _ _ _ _ ?_
 refine hK0 _ _ _ ?_
 refine SW.seq_k fun K1 hK1 => ?_
 refine SW.seq_k fun K2 hK2 => ?_
 refine SW.nilrow 31 11 ?_
 refine SW.region _ _ _ _ ?_
 refine RL.p T ?_
 refine RL.c fun13 (fun hs => flen b R room first n over _ (by repeat first | exact At.head _ _ | assumption | apply At.tail)) ?_
 rintro _ _ ⟨rfl, e⟩; obtain rfl := e.symm
 refine RL.p T ?_
 refine RL.nil _ _ _ _ ?_
 refine hK2 _ _ _ ?_
 refine SW.block ?_
 refine SW.loopM (fun frB mm fr ds HH => ∃ (k : Nat) (a : Option Addr) (c : Nat) (out : List Fs), mm = n - k ∧ (k ≤ n ∧ out.length = k ∧ frs out = frs (L.take k) ∧ (∀ x ∈ out, x.n = x.f.data.length)) ∧ FrIs [2, 3, 6, 7, 8, 9, 10, 11, 12, 13, 14, 15, 16, 17, 18] frB fr [(2, .slice a k c), (6, .int .i64 k)] ∧ ds = [] ∧ HH = (.row a k c 31 11 (List.flatMap FsC out) :: (rowsOf out ++ H))) (n := n - 0) ?_ ?_
 ·exact ⟨0, none, 0, [], rfl, ⟨Nat.zero_le _, rfl, rfl, fun _ h => by cases h⟩, (.cons rfl (.consI rfl (by first | omega | rfl) (.nil (by repeat first | exact Mx.refl | exact Mx.mix | refine Mx.put rfl ?_ | refine Mx.upd rfl ?_ | refine Mx.updl rfl ?_ | refine Mx.fin rfl ?_ | refine Mx.inner rfl ?_ | refine Mx.none ?_)))), rfl, rfl⟩
 ·rintro mm fr ds HH ⟨k, a, c, out, rfl, ⟨hk, hol, hof, hon⟩, hFr, rfl, eHH⟩
  obtain rfl := eHH.symm
  obtain ⟨frU, rfl⟩ := hFr.eq
  clear hFr
  have hfk := hget k
  refine SW.seq_k fun K3 hK3 => ?_
  refine SW.region _ _ _ _ ?_
  refine RL.p T ?_
  refine RL.nil _ _ _ _ ?_
  refine hK3 _ _ _ ?_
  refine SW.seq_k fun K4 hK4 => ?_
  refine SW.cs (fun hc0 => ?_) (fun hc0 => ?_)
  ·skip
   first
    | (exfalso; first | omega | contradiction | (simp at *; done))
    | (
     refine SW.skip ?_
     refine hK4 _ _ _ ?_
     refine SW.seq_k fun K5 hK5 => ?_
     refine SW.block ?_
     refine SW.seq_k fun K6 hK6 => ?_
     refine SW.region _ _ _ _ ?_
     refine RL.p T ?_
     refine RL.p T ?_
     refine RL.nil _ _ _ _ ?_
     refine hK6 _ _ _ ?_
     refine SW.region _ _ _ _ ?_
     refine RL.p T ?_
     refine RL.p T ?_
     refine RL.p T ?_
     refine RL.c fun25 (fun hs => fat b R room first n over _ (by repeat first | exact At.head _ _ | assumption | apply At.tail | apply At.app) k hlt (by omega)) ?_
     rintro _ _ ⟨rfl, e⟩; obtain rfl := e.symm
     refine RL.p T ?_
     refine RL.q (QV.rg T (Nat.mod_lt _ (by omega))) ?_
     rw [hL.get k (by omega)]
     refine RL.c fun24 (fun hs => fcopy (L.getD k default).f (L.getD k default).a (L.getD k default).n (L.getD k default).c (by repeat first | exact hfk.rd | apply Rd.cons | apply Rd.app) hfk.len hfk.max hfk.ok) ?_
     rintro _ _ ⟨a1, c1, rfl, e⟩; obtain rfl := e.symm
     refine RL.bs T rfl rfl rfl (by exact (rfl : _ = some [_, _, _, _, _, _, _, _, _, _, _])) (fun b16_0 => ?_)
     refine RL.apS T ([(⟨(L.getD k default).f, a1, (L.getD k default).f.data.length, c1⟩ : Fs)]) (fun a0_ c0_ => ?_)
     refine RL.p T ?_
     refine RL.perm (.swap _ _ _) ?_
     refine RL.nil _ _ _ _ ?_
     refine hK5 _ _ _ ?_
     refine SW.region _ _ _ _ ?_
     first | refine RL.ar ?_ | refine RL.p T ?_
     refine RL.p T ?_
     refine RL.nil _ _ _ _ ?_
     exact ⟨n - (k + 1), (by omega), k + 1, a0_, c0_, out ++ [⟨(L.getD k default).f, a1, (L.getD k default).f.data.length, c1⟩], (by rfl), ⟨by omega, by simp [hol], by rw [frs_take (by omega), ← hof]; simp [frs], fun x hx => (List.mem_append.1 hx).elim (hon x) (fun h => by rw [List.mem_singleton.1 h])⟩, (.cons rfl (.consI rfl (by first | omega | rfl) (.nil (by repeat first | exact Mx.refl | exact Mx.mix | refine Mx.put rfl ?_ | refine Mx.upd rfl ?_ | refine Mx.updl rfl ?_ | refine Mx.fin rfl ?_ | refine Mx.inner rfl ?_ | refine Mx.none ?_)))), rfl, (by rw [rowsOf_snoc]; rfl)⟩
     )
  ·skip
   first
    | (exfalso; first | omega | contradiction | (simp at *; done))
    | (
     refine SW.exit ?_
     refine hK1 _ _ _ ?_
     refine SW.seq_k fun K7 hK7 => ?_
     refine SW.region _ _ _ _ ?_
     refine RL.p T ?_
     refine RL.p T ?_
     refine RL.nil _ _ _ _ ?_
     refine hK7 _ _ _ ?_
     refine SW.ret ?_
     refine retQ.rr ((.row a k c 31 11 (List.flatMap FsC out) :: (rowsOf out ++ H))) ?_
     clear hK7 K7 hK4 K4 hK3 K3 hK2 K2 hK1 K1 hK0 K0
     obtain rfl : n = k := by omega
     exact ⟨a, c, out, rfl, hol, by rw [hof, List.take_of_length_le (by omega)], hon, rfl⟩
     )
theorem fclear {w0 : World} {H : List Chunk} (b : Nat) (R : Nat → Fs) (room first n over : Nat) (kk : Chunk → List Chunk) (hat : At H (.var b 57 (FifoC R room first n over)) kk) (L : List Fs) (hL : RingIs R first L) (hn : n = L.length) (hok : ∀ x ∈ L, FsOk w0 H x) : SC Try.prog w0 22 #[.pointer (some ⟨b, 0, none⟩)] H (fun v H' => ∃ a c out, v = .slice a n c ∧ out.length = n ∧ frs out = frs L ∧ (∀ x ∈ out, x.n = x.f.data.length) ∧ H' = .row a n c 31 11 (List.flatMap FsC out) :: (rowsOf out ++ kk (.var b 57 (FifoC (fun _ => default) room 0 0 0)))) := by
 refine SC.enter Try.func22 rfl (Nat.le_of_ble_eq_true rfl) ?_
 refine SW.seq_k fun K0 hK0 => ?_
 refine SW.region _ _ _ _ ?_
 refine RL.p T ?_
 refine RL.nil _ _ _ _ ?_
 refine hK0 _ _ _ ?_
 refine SW.seq_k fun K1 hK1 => ?_
 refine SW.seq_k fun K2 hK2 => ?_
 refine SW.region _ _ _ _ ?_
 refine RL.p T ?_
 refine RL.p T ?_
 refine RL.nil _ _ _ _ ?_
 refine hK2 _ _ _ ?_
 refine SW.cs (fun hc0 => ?_) (fun hc0 => ?_)
 ·skip
  first
   | (exfalso; first | omega | contradiction | (simp at *; done))
   | (
    refine SW.seq_k fun K3 hK3 => ?_
    refine SW.region _ _ _ _ ?_
    refine RL.p T ?_
    refine RL.nil _ _ _ _ ?_
    refine hK3 _ _ _ ?_
    refine SW.ret ?_
    refine retQ.rr ((.row a1 n c1 31 11 (List.flatMap FsC out) :: (rowsOf out ++ kk (.var b 57 (FifoC (fun _ => default) room 0 0 0))))) ?_
    clear hK3 K3 hK2 K2 hK1 K1 hK0 K0
    exact ⟨a1, c1, out, rfl, hol, hof, hon, rfl⟩
    )
 ·skip
  first
   | (exfalso; first | omega | contradiction | (simp at *; done))
   | (
    refine SW.skip ?_
    refine hK1 _ _ _ ?_
    refine SW.seq_k fun K4 hK4 => ?_
    refine SW.region _ _ _ _ ?_
    refine RL.p T ?_
    refine RL.c fun18 (fun hs => fall b R room first n over kk hat L hL hn hok) ?_
    rintro _ _ ⟨a1, c1, out, rfl, hol, hof, hon, e⟩; obtain rfl := e.symm
    refine RL.p T ?_
    refine RL.nil _ _ _ _ ?_
    refine hK4 _ _ _ ?_
    refine SW.seq_k fun K5 hK5 => ?_
    refine SW.region _ _ _ _ ?_
    refine RL.p T ?_
    refine RL.p T ?_
    refine RL.p T ?_
    refine RL.p T ?_
    refine RL.q (QV.fld 0 T rfl) ?_
    refine RL.q (pev_sound T (v := .agg (FifoC (fun _ => default) room 0 0 0).toArray) (by kernel_rfl)) ?_
    refine RL.p T ?_
    refine RL.s ?_
    refine NV.svA (vs := FifoC (fun _ => default) room 0 0 0) T rfl rfl rfl rfl (by rw [FifoC_len]; rfl) (by rfl) (At.tail (At.app hat)) (by rw [FifoC_len, FifoC_len]) ?_
    refine RL.nil _ _ _ _ ?_
    refine hK5 _ _ _ ?_
    refine SW.seq_k fun K6 hK6 => ?_
    refine SW.region _ _ _ _ ?_
    refine RL.p T ?_
    refine RL.p T ?_
    refine RL.nil _ _ _ _ ?_
    refine hK6 _ _ _ ?_
    refine SW.ret ?_
    refine retQ.rr ((.row a1 n c1 31 11 (List.flatMap FsC out) :: (rowsOf out ++ kk (.var b 57 (FifoC (fun _ => default) room 0 0 0))))) ?_
    clear hK6 K6 hK5 K5 hK4 K4 hK2 K2 hK1 K1 hK0 K0
    exact ⟨a1, c1, out, rfl, hol, hof, hon, rfl⟩
    )
theorem sames {w0 : World} {H : List Chunk} (ps qs : List Fs) (sa sb : Option Addr) (n c m d : Nat) (hR : Rd w0 H sa n c 11 (ps.flatMap FsC)) (hS : Rd w0 H sb m d 11 (qs.flatMap FsC)) (hn : n = ps.length) (hm : m = qs.length) (hn2 : n ≤ 4398046511104) (hm2 : m ≤ 4398046511104) (hA : ∀ x ∈ ps, FsOk w0 H x) (hB : ∀ x ∈ qs, FsOk w0 H x) : SC Try.prog w0 17 #[.slice sa n c, .slice sb m d] H (fun v H' => v = .bool (decide (frs ps = frs qs)) ∧ H' = H) := by
 refine SC.enter Try.func17 rfl (Nat.le_of_ble_eq_true rfl) ?_
 refine SW.seq_k fun K0 hK0 => ?_
 refine SW.region _ _ _ _ ?_
 refine RL.p T ?_
 refine RL.nil _ _ _ _ ?_
 refine hK0 _ _ _ ?_
 refine SW.seq_k fun K1 hK1 => ?_
 refine SW.seq_k fun K2 hK2 => ?_
 refine SW.region _ _ _ _ ?_
 refine RL.p T ?_
 refine RL.p T ?_
 refine RL.p T ?_
 refine RL.p T ?_
 refine RL.p T ?_
 refine RL.nil _ _ _ _ ?_
 refine hK2 _ _ _ ?_
 refine SW.cs (fun hc0 => ?_) (fun hc0 => ?_)
 ·skip
  first
   | (exfalso; first | omega | contradiction | (simp at *; done))
   | (
    refine SW.seq_k fun K3 hK3 => ?_
    refine SW.region _ _ _ _ ?_
    refine RL.p T ?_
    refine RL.nil _ _ _ _ ?_
    refine hK3 _ _ _ ?_
    refine SW.ret ?_
    refine retQ.rr (H) ?_
    clear hK3 K3 hK2 K2 hK1 K1 hK0 K0
    refine ⟨boolE ?_, rfl⟩
    first
      | (rw [same_frs_len (by omega)]; done)
      | (rw [same_frs_ne (k := k) (by omega) (by omega) (by assumption)]; done)
      | (rw [List.take_of_length_le (by omega), List.take_of_length_le (by omega)] at hs; rw [hs]; exact (decide_eq_true rfl).symm)
    )
 ·skip
  first
   | (exfalso; first | omega | contradiction | (simp at *; done))
   | (
    refine SW.skip ?_
    refine hK1 _ _ _ ?_
    refine SW.seq_k fun K4 hK4 => ?_
    refine SW.seq_k fun K5 hK5 => ?_
    refine SW.region _ _ _ _ ?_
    refine RL.p T ?_
    refine RL.p T ?_
    refine RL.p T ?_
    refine RL.nil _ _ _ _ ?_
    refine hK5 _ _ _ ?_
    refine SW.block ?_
    refine SW.loopM (fun frB mm fr ds HH => ∃ (k : Nat) , mm = n - k ∧ (k ≤ n ∧ (frs (ps.take k) = frs (qs.take k))) ∧ FrIs [4, 5, 13, 14, 15, 16, 17, 18, 19, 20, 21, 22, 23, 24, 25, 26] frB fr [(13, .int .i64 k)] ∧ ds = [] ∧ HH = H) (n := n - 0) ?_ ?_
    ·exact ⟨0, rfl, ⟨Nat.zero_le _, rfl⟩, (.cons rfl (.nil (by repeat first | exact Mx.refl | exact Mx.mix | refine Mx.put rfl ?_ | refine Mx.upd rfl ?_ | refine Mx.updl rfl ?_ | refine Mx.fin rfl ?_ | refine Mx.inner rfl ?_ | refine Mx.none ?_))), rfl, rfl⟩
    ·rintro mm fr ds HH ⟨k, rfl, ⟨hk, hs⟩, hFr, rfl, eHH⟩
     obtain rfl := eHH.symm
     obtain ⟨frU, rfl⟩ := hFr.eq
     clear hFr
     have ha := getD_mem FsOk.dflt hA k
     have hb := getD_mem FsOk.dflt hB k
     refine SW.seq_k fun K6 hK6 => ?_
     refine SW.region _ _ _ _ ?_
     refine RL.p T ?_
     refine RL.nil _ _ _ _ ?_
     refine hK6 _ _ _ ?_
     refine SW.seq_k fun K7 hK7 => ?_
     refine SW.cs (fun hc1 => ?_) (fun hc1 => ?_)
     ·skip
      first
       | (exfalso; first | omega | contradiction | (simp at *; done))
       | (
        refine SW.skip ?_
        refine hK7 _ _ _ ?_
        refine SW.seq_k fun K8 hK8 => ?_
        refine SW.block ?_
        refine SW.seq_k fun K9 hK9 => ?_
        refine SW.region _ _ _ _ ?_
        refine RL.p T ?_
        refine RL.p T ?_
        refine RL.nil _ _ _ _ ?_
        refine hK9 _ _ _ ?_
        refine SW.seq_k fun K10 hK10 => ?_
        refine SW.drawQ [(16, 0), (17, 1), (18, 2), (19, 3), (20, 4), (21, 5), (22, 6), (23, 7), (24, 8), (25, 9)] [[], [], [0, 1], [2, 0, 1], [], [], [4, 5], [6, 4, 5], [3, 2, 0, 1, 7, 6, 4, 5], [8, 3, 2, 0, 1, 7, 6, 4, 5]] mixed (by kernel_rfl) (by kernel_rfl) ?_
        refine QL.p T ?_
        refine QL.p T ?_
        refine QL.ix T ?_ (hR := fun hs => (by first | exact hR | exact hS))
        refine QL.leN T ?_ (hR := fun hs => (by first | exact hR | exact hS)) (hvs := (by exact (rfl : _ = [_, _, _, _, _, _, _, _, _, _, _])))
        refine QL.p T ?_
        refine QL.p T ?_
        refine QL.ix T ?_ (hR := fun hs => (by first | exact hR | exact hS))
        refine QL.leN T ?_ (hR := fun hs => (by first | exact hR | exact hS)) (hvs := (by exact (rfl : _ = [_, _, _, _, _, _, _, _, _, _, _])))
        refine QL.c fun21 (fun hs => rfsame (ps.getD k default).f (ps.getD k default).a (ps.getD k default).n (ps.getD k default).c ha.rd ha.len ha.max ha.ok (qs.getD k default).f (qs.getD k default).a (qs.getD k default).n (qs.getD k default).c hb.rd hb.len hb.max hb.ok) ?_
        refine QL.p T ?_
        refine QL.nil ?_
        refine hK10 _ _ _ ?_
        refine SW.cs (fun hc2 => ?_) (fun hc2 => ?_)
        ·skip
         first
          | (exfalso; first | omega | contradiction | (simp at *; done))
          | (
           refine SW.seq_k fun K11 hK11 => ?_
           refine SW.region _ _ _ _ ?_
           refine RL.p T ?_
           refine RL.nil _ _ _ _ ?_
           refine hK11 _ _ _ ?_
           refine SW.ret ?_
           refine retQ.rr (H) ?_
           clear hK11 K11 hK10 K10 hK9 K9 hK8 K8 hK7 K7 hK6 K6 hK5 K5 hK4 K4 hK2 K2 hK1 K1 hK0 K0
           refine ⟨boolE ?_, rfl⟩
           first
             | (rw [same_frs_len (by omega)]; done)
             | (rw [same_frs_ne (k := k) (by omega) (by omega) (by assumption)]; done)
             | (rw [List.take_of_length_le (by omega), List.take_of_length_le (by omega)] at hs; rw [hs]; exact (decide_eq_true rfl).symm)
           )
        ·skip
         first
          | (exfalso; first | omega | contradiction | (simp at *; done))
          | (
           refine SW.skip ?_
           refine hK8 _ _ _ ?_
           refine SW.region _ _ _ _ ?_
           first | refine RL.ar ?_ | refine RL.p T ?_
           refine RL.p T ?_
           refine RL.nil _ _ _ _ ?_
           exact ⟨n - (k + 1), (by omega), k + 1, (by rfl), ⟨by omega, same_frs_step (by omega) (by omega) hs (by assumption)⟩, (.cons rfl (.nil (by repeat first | exact Mx.refl | exact Mx.mix | refine Mx.put rfl ?_ | refine Mx.upd rfl ?_ | refine Mx.updl rfl ?_ | refine Mx.fin rfl ?_ | refine Mx.inner rfl ?_ | refine Mx.none ?_))), rfl, rfl⟩
           )
        )
     ·skip
      first
       | (exfalso; first | omega | contradiction | (simp at *; done))
       | (
        refine SW.exit ?_
        refine hK4 _ _ _ ?_
        refine SW.seq_k fun K12 hK12 => ?_
        refine SW.region _ _ _ _ ?_
        refine RL.p T ?_
        refine RL.nil _ _ _ _ ?_
        refine hK12 _ _ _ ?_
        refine SW.ret ?_
        refine retQ.rr (H) ?_
        clear hK12 K12 hK7 K7 hK6 K6 hK5 K5 hK4 K4 hK2 K2 hK1 K1 hK0 K0
        refine ⟨boolE ?_, rfl⟩
        first
          | (rw [same_frs_len (by omega)]; done)
          | (rw [same_frs_ne (k := k) (by omega) (by omega) (by assumption)]; done)
          | (rw [List.take_of_length_le (by omega), List.take_of_length_le (by omega)] at hs; rw [hs]; exact (decide_eq_true rfl).symm)
        )
    )
end Go.Proofs.Ytojghialjpianaa.M
