import Derived.Test.YtdcahmifalabnaaProg
import Derived.Test.YtdcahmifalabnaaFB4
set_option linter.unusedVariables false
set_option linter.unusedSimpArgs false
namespace Go.Proofs.Ytdcahmifalabnaa.M
open Go Go.Sep Go.Proofs
set_option maxRecDepth 10000
set_option maxHeartbeats 2000000
theorem fget_bad {w0 : World} {H : List Chunk} (prev ev : Int) (ah : Bool) (sa : Option Addr) (n c : Nat) (es : List Int) (hR : Rd w0 H sa n c 1 (es.map (.int .u8))) (hn : n = es.length) (hm : n ≤ 140737488351232) (hf : fck prev es ev = false) : SC Try.prog w0 15 #[.int .u8 prev, .slice sa n c, .agg #[.int .i64 ev, .bool ah]] H (fun v H' => v = .tuple #[.slice none 0 0, .int .i64 2] ∧ H' = H) := by
 refine SC.enter Try.func15 rfl (Nat.le_of_ble_eq_true rfl) ?_
 refine SW.seq_k ?_
 intro K0 hK0
 refine SW.region _ _ _ _ ?_
 refine RL.st ?_
 refine NV.box rfl (by exact (rfl : _ = [_, _])) ?_
 intro b5_0
 refine RL.st ?_
 refine NV.p T ?_
 refine RL.st ?_
 refine NV.p T ?_
 refine RL.nil _ _ _ _ ?_
 refine hK0 _ _ _ ?_
 refine SW.seq_k ?_
 intro K1 hK1
 refine SW.seq_k ?_
 intro K2 hK2
 refine SW.region _ _ _ _ ?_
 refine RL.st ?_
 refine NV.p T ?_
 refine RL.st ?_
 refine NV.p T ?_
 refine RL.st ?_
 refine NV.load_varN T rfl rfl rfl rfl rfl (by repeat first | exact At.head _ _ | assumption | exact At.put (by assumption) _ | apply At.tail | apply At.app) (by exact (rfl : _ = [_, _])) rfl ?_
 refine RL.st ?_
 refine NV.call rfl rfl rfl fun25 rfl rfl ((fcheck prev ev ah sa n c es hR.cons hn hm).mono (fun v H' h => by rw [hf] at h; exact h)) ?_
 rintro _ _ ⟨rfl, e⟩; obtain rfl := e.symm
 refine RL.st ?_
 refine NV.p T ?_
 refine RL.nil _ _ _ _ ?_
 refine hK2 _ _ _ ?_
 refine SW.cond rfl (fun hc0 => ?_) (fun hc0 => ?_)
 ·try simp only [decide_eq_true_eq, decide_eq_false_iff_not, Bool.not_eq_true', Bool.not_eq_false', Int.not_lt, Int.not_le, Int.toNat_natCast] at hc0
  first
   | (exfalso; clear hK2 K2; clear hK1 K1; clear hK0 K0; first | omega | contradiction | (simp_all; done) | (simp_all; omega))
   | (
    refine SW.seq_k ?_
    intro K3 hK3
    refine SW.region _ _ _ _ ?_
    refine RL.st ?_
    refine NV.p T ?_
    refine RL.st ?_
    refine NV.p T ?_
    refine RL.nil _ _ _ _ ?_
    refine hK3 _ _ _ ?_
    refine SW.ret ?_
    refine retQ.ret (H' := H) (RVs.tmp (by conv => lhs; whnf) (RVs.tmp (by conv => lhs; whnf) RVs.nil)) (fun w hw => Sat.sub (by repeat first | exact List.Sublist.refl _ | apply List.Sublist.cons_cons | apply List.Sublist.cons | exact List.sublist_append_right _ _ | refine List.Sublist.trans ?_ (List.sublist_append_right _ _)) hw) ?_
    clear hK3 K3 hK2 K2 hK1 K1 hK0 K0
    exact ⟨rfl, rfl⟩
    )
 ·try simp only [decide_eq_true_eq, decide_eq_false_iff_not, Bool.not_eq_true', Bool.not_eq_false', Int.not_lt, Int.not_le, Int.toNat_natCast] at hc0
  exfalso; clear hK2 K2; clear hK1 K1; clear hK0 K0; first | omega | contradiction | (simp_all; done) | (simp_all; omega)
theorem fget_ok {w0 : World} {H : List Chunk} (prev ev : Int) (ah : Bool) (sa : Option Addr) (n c : Nat) (es : List Int) (hR : Rd w0 H sa n c 1 (es.map (.int .u8))) (hn : n = es.length) (hm : n ≤ 140737488351232) (hf : fck prev es ev = true) (e1 : 1 ≤ ev) (e2 : ev ≤ 64) (p0 : 0 ≤ prev) (p1 : prev ≤ 1) (hz : Bit es) : SC Try.prog w0 15 #[.int .u8 prev, .slice sa n c, .agg #[.int .i64 ev, .bool ah]] H (fun v H' => RV w0 H (getV prev es ev ah).1 (getV prev es ev ah).2 v H') := by
 refine SC.enter Try.func15 rfl (Nat.le_of_ble_eq_true rfl) ?_
 refine SW.seq_k ?_
 intro K0 hK0
 refine SW.region _ _ _ _ ?_
 refine RL.st ?_
 refine NV.box rfl (by exact (rfl : _ = [_, _])) ?_
 intro b5_0
 refine RL.st ?_
 refine NV.p T ?_
 refine RL.st ?_
 refine NV.p T ?_
 refine RL.nil _ _ _ _ ?_
 refine hK0 _ _ _ ?_
 refine SW.seq_k ?_
 intro K1 hK1
 refine SW.seq_k ?_
 intro K2 hK2
 refine SW.region _ _ _ _ ?_
 refine RL.st ?_
 refine NV.p T ?_
 refine RL.st ?_
 refine NV.p T ?_
 refine RL.st ?_
 refine NV.load_varN T rfl rfl rfl rfl rfl (by repeat first | exact At.head _ _ | assumption | exact At.put (by assumption) _ | apply At.tail | apply At.app) (by exact (rfl : _ = [_, _])) rfl ?_
 refine RL.st ?_
 refine NV.call rfl rfl rfl fun25 rfl rfl ((fcheck prev ev ah sa n c es hR.cons hn hm).mono (fun v H' h => by rw [hf] at h; exact h)) ?_
 rintro _ _ ⟨rfl, e⟩; obtain rfl := e.symm
 refine RL.st ?_
 refine NV.p T ?_
 refine RL.nil _ _ _ _ ?_
 refine hK2 _ _ _ ?_
 refine SW.cond rfl (fun hc0 => ?_) (fun hc0 => ?_)
 ·try simp only [decide_eq_true_eq, decide_eq_false_iff_not, Bool.not_eq_true', Bool.not_eq_false', Int.not_lt, Int.not_le, Int.toNat_natCast] at hc0
  first
   | (exfalso; clear hK2 K2; clear hK1 K1; clear hK0 K0; first | omega | contradiction | (simp_all; done) | (simp_all; omega))
   | (
    refine SW.seq_k ?_
    intro K3 hK3
    refine SW.region _ _ _ _ ?_
    refine RL.st ?_
    refine NV.p T ?_
    refine RL.st ?_
    refine NV.p T ?_
    refine RL.nil _ _ _ _ ?_
    refine hK3 _ _ _ ?_
    refine SW.sat (fun hs => ?_)
    refine SW.ret ?_
    refine retQ.ret (RVs.tmp (by conv => lhs; whnf) (RVs.tmp (by conv => lhs; whnf) RVs.nil)) (fun w hw => hw) ?_
    clear hK3 K3 hK2 K2 hK1 K1 hK0 K0
    first
      | (rw [getV_none hf (hI.bad (by omega) (by assumption) (by omega))]; exact ⟨_, rfl, none, 0, 0, rfl, rfl, Rd.nilS, [_, _, _], rfl⟩)
      | (rw [getV_more hf ((show d = true by assumption) ▸ hI.done (by omega))]; exact ⟨_, rfl, none, 0, 0, rfl, rfl, Rd.nilS, [_, _, _], rfl⟩)
      | (rw [getV_ok hf ((show d = false by assumption) ▸ hI.done (by omega))]; exact ⟨_, rfl, Res.row hs (At.head _ _) (G := [_, _, _]) rfl⟩)
    )
 ·try simp only [decide_eq_true_eq, decide_eq_false_iff_not, Bool.not_eq_true', Bool.not_eq_false', Int.not_lt, Int.not_le, Int.toNat_natCast] at hc0
  first
   | (exfalso; clear hK2 K2; clear hK1 K1; clear hK0 K0; first | omega | contradiction | (simp_all; done) | (simp_all; omega))
   | (
    refine SW.skip ?_
    refine hK1 _ _ _ ?_
    refine SW.seq_k ?_
    intro K4 hK4
    refine SW.region _ _ _ _ ?_
    refine RL.st ?_
    refine NV.load_varN T rfl rfl rfl rfl rfl (by repeat first | exact At.head _ _ | assumption | exact At.put (by assumption) _ | apply At.tail | apply At.app) (by exact (rfl : _ = [_, _])) rfl ?_
    refine RL.st ?_
    refine NV.p T ?_
    refine RL.st ?_
    refine NV.call rfl rfl rfl fun26 rfl rfl (begin_ ev ah prev) ?_
    rintro _ _ ⟨bl, rfl, e⟩; obtain rfl := e.symm
    refine RL.st ?_
    refine NV.p T ?_
    refine RL.nil _ _ _ _ ?_
    refine hK4 _ _ _ ?_
    refine SW.seq_k ?_
    intro K5 hK5
    refine SW.region _ _ _ _ ?_
    refine RL.nilrow 5 1 ?_
    refine RL.st ?_
    refine NV.p T ?_
    refine RL.nil _ _ _ _ ?_
    refine hK5 _ _ _ ?_
    refine SW.seq_k ?_
    intro K6 hK6
    refine SW.region _ _ _ _ ?_
    refine RL.st ?_
    refine NV.p T ?_
    refine RL.nil _ _ _ _ ?_
    refine hK6 _ _ _ ?_
    refine SW.seq_k ?_
    intro K7 hK7
    refine SW.seq_k ?_
    intro K8 hK8
    refine SW.region _ _ _ _ ?_
    refine RL.st ?_
    refine NV.p T ?_
    refine RL.st ?_
    refine NV.p T ?_
    refine RL.st ?_
    refine NV.p T ?_
    refine RL.nil _ _ _ _ ?_
    refine hK8 _ _ _ ?_
    refine SW.block ?_
    refine SW.loopM (fun frB mm fr ds HH => ∃ (k : Nat) (d : Bool) (last left : Int) (sr : Option Addr) (L cr : Nat) (out : List Int), mm = n - k ∧ (k ≤ n ∧ (L = out.length ∧ GI ev prev (if ah then 0 else ev) es k last left d out)) ∧ FrIs [6, 7, 9, 10, 12, 23, 24, 25, 26, 27, 28, 29, 30, 31, 32, 33, 34, 35, 36, 37, 38, 39, 40, 41, 42] frB fr [(23, .int .i64 k), (9, .slice sr L cr), (10, .bool d)] ∧ ds = [] ∧ HH = (.row sr L cr 5 1 (out.map (.int .u8)) :: .var bl 64 [.int .i64 ev, .bool ah, .int .u8 last, .int .i64 left] :: .var b5_0 30 [.int .i64 ev, .bool ah] :: H)) (n := n - 0) ?_ ?_
    ·exact ⟨0, false, prev, (if ah then 0 else ev), none, 0, 0, [], rfl, ⟨Nat.zero_le _, ⟨rfl, ⟨Nat.zero_le _, by simp [pre], Nat.le_refl _, p0, p1, by split <;> omega, by split <;> omega⟩⟩⟩, (.cons rfl (.cons rfl (.consB rfl (by first | rfl | assumption | exact decide_eq_true (by assumption) | exact decide_eq_false (by assumption) | (clear hK8 K8; clear hK7 K7; clear hK6 K6; clear hK5 K5; clear hK4 K4; clear hK2 K2; clear hK1 K1; clear hK0 K0;  simp_all)) (.nil (by repeat first | exact Mx.refl | exact Mx.mix | refine Mx.put rfl ?_ | refine Mx.upd rfl ?_ | refine Mx.updl rfl ?_ | refine Mx.fin rfl ?_ | refine Mx.inner rfl ?_ | refine Mx.none ?_))))), rfl, rfl⟩
    ·rintro mm fr ds HH ⟨k, d, last, left, sr, L, cr, out, rfl, ⟨hk, ⟨hL, hI⟩⟩, hFr, rfl, eHH⟩
     obtain rfl := eHH.symm
     obtain ⟨frU, rfl⟩ := hFr.eq
     clear hFr
     have hl0 := hI.l0
     have hl1 := hI.l1
     have hf0 := hI.f0
     have hf1 := hI.f1
     have hlen := hI.len
     have hkn := hI.kn
     have hzk := hz k
     refine SW.seq_k ?_
     intro K9 hK9
     refine SW.region _ _ _ _ ?_
     refine RL.st ?_
     refine NV.p T ?_
     refine RL.nil _ _ _ _ ?_
     refine hK9 _ _ _ ?_
     refine SW.seq_k ?_
     intro K10 hK10
     refine SW.cond rfl (fun hc1 => ?_) (fun hc1 => ?_)
     ·try simp only [decide_eq_true_eq, decide_eq_false_iff_not, Bool.not_eq_true', Bool.not_eq_false', Int.not_lt, Int.not_le, Int.toNat_natCast] at hc1
      first
       | (exfalso; clear hK10 K10; clear hK9 K9; clear hK8 K8; clear hK7 K7; clear hK6 K6; clear hK5 K5; clear hK4 K4; clear hK2 K2; clear hK1 K1; clear hK0 K0; first | omega | contradiction | (simp_all; done) | (simp_all; omega))
       | (
        refine SW.skip ?_
        refine hK10 _ _ _ ?_
        refine SW.seq_k ?_
        intro K11 hK11
        refine SW.block ?_
        refine SW.seq_k ?_
        intro K12 hK12
        refine SW.region _ _ _ _ ?_
        refine RL.st ?_
        first
          | refine NV.index_array T rfl rfl rfl rfl rfl (by omega) (by omega) ?_
          | refine NV.index_slice T rfl rfl rfl rfl rfl (by first | exact hR | exact hR.cons | exact hR.cons.cons | exact hR.cons.cons.cons | exact Rd.row (At.head _ _) hs) (by omega) (by omega) ?_
        refine RL.st ?_
        refine NV.load_elem T rfl rfl rfl rfl (by first | exact hR | exact hR.cons | exact hR.cons.cons | exact hR.cons.cons.cons | exact Rd.row (At.head _ _) hs) (by first | exact map_get _ _ (by omega) | assumption) ?_
        refine RL.st ?_
        refine NV.p T ?_
        refine RL.nil _ _ _ _ ?_
        refine hK12 _ _ _ ?_
        refine SW.seq_k ?_
        intro K13 hK13
        refine SW.region _ _ _ _ ?_
        refine RL.st ?_
        refine NV.p T ?_
        refine RL.st ?_
        refine NV.call rfl rfl rfl fun27 rfl rfl (due bl ev ah last left _ (by repeat first | exact At.head _ _ | apply At.tail)) ?_
        rintro _ _ ⟨rfl, e⟩; obtain rfl := e.symm
        refine RL.st ?_
        refine NV.p T ?_
        refine RL.nil _ _ _ _ ?_
        refine hK13 _ _ _ ?_
        refine SW.seq_k ?_
        intro K14 hK14
        refine SW.region _ _ _ _ ?_
        refine RL.st ?_
        refine NV.p T ?_
        refine RL.st ?_
        refine NV.p T ?_
        refine RL.nil _ _ _ _ ?_
        refine hK14 _ _ _ ?_
        refine SW.cond rfl (fun hc2 => ?_) (fun hc2 => ?_)
        ·try simp only [decide_eq_true_eq, decide_eq_false_iff_not, Bool.not_eq_true', Bool.not_eq_false', Int.not_lt, Int.not_le, Int.toNat_natCast] at hc2
         first
          | (exfalso; clear hK14 K14; clear hK13 K13; clear hK12 K12; clear hK11 K11; clear hK10 K10; clear hK9 K9; clear hK8 K8; clear hK7 K7; clear hK6 K6; clear hK5 K5; clear hK4 K4; clear hK2 K2; clear hK1 K1; clear hK0 K0; first | omega | contradiction | (simp_all; done) | (simp_all; omega))
          | (
           refine SW.seq_k ?_
           intro K15 hK15
           refine SW.region _ _ _ _ ?_
           refine RL.st ?_
           refine NV.p T ?_
           refine RL.st ?_
           refine NV.p T ?_
           refine RL.st ?_
           refine NV.call rfl rfl rfl fun29 rfl rfl (see bl ev ah last left (es.getD k 0) (by omega) (by omega) _ (by repeat first | exact At.head _ _ | apply At.tail)) ?_
           rintro _ _ e; obtain rfl := e.symm
           refine RL.nil _ _ _ _ ?_
           refine hK15 _ _ _ ?_
           refine SW.region _ _ _ _ ?_
           refine RL.st ?_
           refine NV.p T ?_
           refine RL.st ?_
           refine NV.p T ?_
           refine RL.st ?_
           refine NV.build1 T rfl (by conv => lhs; whnf) rfl rfl (by conv => lhs; whnf) (by exact (rfl : _ = some [_])) ?_
           intro b36_1
           refine RL.st ?_
           first
             | refine NV.append1 T rfl rfl rfl rfl rfl rfl rfl rfl rfl rfl (by repeat first | exact At.head _ _ | assumption | exact At.put (by assumption) _ | apply At.tail | apply At.app) (ones rfl) (by first | omega | (unfold maxLen; omega)) (by first | omega | (show (_ + _) * 1 ≤ 140737488355328; omega)) ?_
             | refine NV.append T rfl rfl rfl rfl rfl rfl rfl rfl rfl rfl (by repeat first | exact At.head _ _ | assumption | exact At.put (by assumption) _ | apply At.tail | apply At.app) (by assumption) (ones rfl) (by first | omega | (unfold maxLen; omega)) (by first | omega | (show (_ + _) * 1 ≤ 140737488355328; omega)) ?_
           intro a0_ c0_
           refine RL.st ?_
           refine NV.p T ?_
           refine RL.nil _ _ _ _ ?_
           refine hK11 _ _ _ ?_
           refine SW.region _ _ _ _ ?_
           refine RL.st ?_
           first | refine NV.arith rfl rfl rfl rfl (by omega) (by omega) ?_ | refine NV.p T ?_
           refine RL.st ?_
           refine NV.p T ?_
           refine RL.nil _ _ _ _ ?_
           first
             | exact ⟨n - (k + 1), (by omega), k + 1, false, es.getD k 0, left - 1, _, _, _, out ++ [es.getD k 0], (by rfl), ⟨by omega, ⟨by simp; omega, hI.see (by omega) e1 hzk (by assumption)⟩⟩, (.cons rfl (.cons rfl (.consB rfl (by first | rfl | assumption | exact decide_eq_true (by assumption) | exact decide_eq_false (by assumption) | (clear hK15 K15; clear hK14 K14; clear hK13 K13; clear hK12 K12; clear hK11 K11; clear hK10 K10; clear hK9 K9; clear hK8 K8; clear hK7 K7; clear hK6 K6; clear hK5 K5; clear hK4 K4; clear hK2 K2; clear hK1 K1; clear hK0 K0;  simp_all)) (.nil (by repeat first | exact Mx.refl | exact Mx.mix | refine Mx.put rfl ?_ | refine Mx.upd rfl ?_ | refine Mx.updl rfl ?_ | refine Mx.fin rfl ?_ | refine Mx.inner rfl ?_ | refine Mx.none ?_))))), rfl, (by simp)⟩
             | exact ⟨n - (k + 1), (by omega), k + 1, true, 1 - last, ev, _, _, _, out, (by rfl), ⟨by omega, ⟨by assumption, hI.stuff (by omega) e1 (by assumption) (by omega)⟩⟩, (.cons rfl (.cons rfl (.consB rfl (by first | rfl | assumption | exact decide_eq_true (by assumption) | exact decide_eq_false (by assumption) | (clear hK15 K15; clear hK14 K14; clear hK13 K13; clear hK12 K12; clear hK11 K11; clear hK10 K10; clear hK9 K9; clear hK8 K8; clear hK7 K7; clear hK6 K6; clear hK5 K5; clear hK4 K4; clear hK2 K2; clear hK1 K1; clear hK0 K0;  simp_all)) (.nil (by repeat first | exact Mx.refl | exact Mx.mix | refine Mx.put rfl ?_ | refine Mx.upd rfl ?_ | refine Mx.updl rfl ?_ | refine Mx.fin rfl ?_ | refine Mx.inner rfl ?_ | refine Mx.none ?_))))), rfl, rfl⟩
           )
        ·try simp only [decide_eq_true_eq, decide_eq_false_iff_not, Bool.not_eq_true', Bool.not_eq_false', Int.not_lt, Int.not_le, Int.toNat_natCast] at hc2
         first
          | (exfalso; clear hK14 K14; clear hK13 K13; clear hK12 K12; clear hK11 K11; clear hK10 K10; clear hK9 K9; clear hK8 K8; clear hK7 K7; clear hK6 K6; clear hK5 K5; clear hK4 K4; clear hK2 K2; clear hK1 K1; clear hK0 K0; first | omega | contradiction | (simp_all; done) | (simp_all; omega))
          | (
           refine SW.seq_k ?_
           intro K16 hK16
           refine SW.region _ _ _ _ ?_
           refine RL.st ?_
           refine NV.p T ?_
           refine RL.st ?_
           refine NV.call rfl rfl rfl fun28 rfl rfl (stuff bl ev ah last left hl0 hl1 _ (by repeat first | exact At.head _ _ | apply At.tail)) ?_
           rintro _ _ ⟨rfl, e⟩; obtain rfl := e.symm
           refine RL.st ?_
           refine NV.p T ?_
           refine RL.st ?_
           refine NV.p T ?_
           refine RL.nil _ _ _ _ ?_
           refine hK16 _ _ _ ?_
           refine SW.cond rfl (fun hc3 => ?_) (fun hc3 => ?_)
           ·try simp only [decide_eq_true_eq, decide_eq_false_iff_not, Bool.not_eq_true', Bool.not_eq_false', Int.not_lt, Int.not_le, Int.toNat_natCast] at hc3
            first
             | (exfalso; clear hK16 K16; clear hK14 K14; clear hK13 K13; clear hK12 K12; clear hK11 K11; clear hK10 K10; clear hK9 K9; clear hK8 K8; clear hK7 K7; clear hK6 K6; clear hK5 K5; clear hK4 K4; clear hK2 K2; clear hK1 K1; clear hK0 K0; first | omega | contradiction | (simp_all; done) | (simp_all; omega))
             | (
              refine SW.seq_k ?_
              intro K17 hK17
              refine SW.region _ _ _ _ ?_
              refine RL.st ?_
              refine NV.p T ?_
              refine RL.st ?_
              refine NV.p T ?_
              refine RL.nil _ _ _ _ ?_
              refine hK17 _ _ _ ?_
              refine SW.sat (fun hs => ?_)
              refine SW.ret ?_
              refine retQ.ret (RVs.tmp (by conv => lhs; whnf) (RVs.tmp (by conv => lhs; whnf) RVs.nil)) (fun w hw => hw) ?_
              clear hK17 K17 hK16 K16 hK14 K14 hK13 K13 hK12 K12 hK11 K11 hK10 K10 hK9 K9 hK8 K8 hK7 K7 hK6 K6 hK5 K5 hK4 K4 hK2 K2 hK1 K1 hK0 K0
              first
                | (rw [getV_none hf (hI.bad (by omega) (by assumption) (by omega))]; exact ⟨_, rfl, none, 0, 0, rfl, rfl, Rd.nilS, [_, _, _], rfl⟩)
                | (rw [getV_more hf ((show d = true by assumption) ▸ hI.done (by omega))]; exact ⟨_, rfl, none, 0, 0, rfl, rfl, Rd.nilS, [_, _, _], rfl⟩)
                | (rw [getV_ok hf ((show d = false by assumption) ▸ hI.done (by omega))]; exact ⟨_, rfl, Res.row hs (At.head _ _) (G := [_, _, _]) rfl⟩)
              )
           ·try simp only [decide_eq_true_eq, decide_eq_false_iff_not, Bool.not_eq_true', Bool.not_eq_false', Int.not_lt, Int.not_le, Int.toNat_natCast] at hc3
            first
             | (exfalso; clear hK16 K16; clear hK14 K14; clear hK13 K13; clear hK12 K12; clear hK11 K11; clear hK10 K10; clear hK9 K9; clear hK8 K8; clear hK7 K7; clear hK6 K6; clear hK5 K5; clear hK4 K4; clear hK2 K2; clear hK1 K1; clear hK0 K0; first | omega | contradiction | (simp_all; done) | (simp_all; omega))
             | (
              refine SW.skip ?_
              refine hK11 _ _ _ ?_
              refine SW.region _ _ _ _ ?_
              refine RL.st ?_
              first | refine NV.arith rfl rfl rfl rfl (by omega) (by omega) ?_ | refine NV.p T ?_
              refine RL.st ?_
              refine NV.p T ?_
              refine RL.nil _ _ _ _ ?_
              first
                | exact ⟨n - (k + 1), (by omega), k + 1, false, es.getD k 0, left - 1, _, _, _, out ++ [es.getD k 0], (by rfl), ⟨by omega, ⟨by simp; omega, hI.see (by omega) e1 hzk (by assumption)⟩⟩, (.cons rfl (.cons rfl (.consB rfl (by first | rfl | assumption | exact decide_eq_true (by assumption) | exact decide_eq_false (by assumption) | (clear hK16 K16; clear hK14 K14; clear hK13 K13; clear hK12 K12; clear hK11 K11; clear hK10 K10; clear hK9 K9; clear hK8 K8; clear hK7 K7; clear hK6 K6; clear hK5 K5; clear hK4 K4; clear hK2 K2; clear hK1 K1; clear hK0 K0;  simp_all)) (.nil (by repeat first | exact Mx.refl | exact Mx.mix | refine Mx.put rfl ?_ | refine Mx.upd rfl ?_ | refine Mx.updl rfl ?_ | refine Mx.fin rfl ?_ | refine Mx.inner rfl ?_ | refine Mx.none ?_))))), rfl, (by simp)⟩
                | exact ⟨n - (k + 1), (by omega), k + 1, true, 1 - last, ev, _, _, _, out, (by rfl), ⟨by omega, ⟨by assumption, hI.stuff (by omega) e1 (by assumption) (by omega)⟩⟩, (.cons rfl (.cons rfl (.consB rfl (by first | rfl | assumption | exact decide_eq_true (by assumption) | exact decide_eq_false (by assumption) | (clear hK16 K16; clear hK14 K14; clear hK13 K13; clear hK12 K12; clear hK11 K11; clear hK10 K10; clear hK9 K9; clear hK8 K8; clear hK7 K7; clear hK6 K6; clear hK5 K5; clear hK4 K4; clear hK2 K2; clear hK1 K1; clear hK0 K0;  simp_all)) (.nil (by repeat first | exact Mx.refl | exact Mx.mix | refine Mx.put rfl ?_ | refine Mx.upd rfl ?_ | refine Mx.updl rfl ?_ | refine Mx.fin rfl ?_ | refine Mx.inner rfl ?_ | refine Mx.none ?_))))), rfl, rfl⟩
              )
           )
        )
     ·try simp only [decide_eq_true_eq, decide_eq_false_iff_not, Bool.not_eq_true', Bool.not_eq_false', Int.not_lt, Int.not_le, Int.toNat_natCast] at hc1
      first
       | (exfalso; clear hK10 K10; clear hK9 K9; clear hK8 K8; clear hK7 K7; clear hK6 K6; clear hK5 K5; clear hK4 K4; clear hK2 K2; clear hK1 K1; clear hK0 K0; first | omega | contradiction | (simp_all; done) | (simp_all; omega))
       | (
        refine SW.exit ?_
        refine hK7 _ _ _ ?_
        refine SW.seq_k ?_
        intro K18 hK18
        refine SW.seq_k ?_
        intro K19 hK19
        refine SW.region _ _ _ _ ?_
        refine RL.st ?_
        refine NV.p T ?_
        refine RL.nil _ _ _ _ ?_
        refine hK19 _ _ _ ?_
        refine SW.cond rfl (fun hc4 => ?_) (fun hc4 => ?_)
        ·try simp only [decide_eq_true_eq, decide_eq_false_iff_not, Bool.not_eq_true', Bool.not_eq_false', Int.not_lt, Int.not_le, Int.toNat_natCast] at hc4
         first
          | (exfalso; clear hK19 K19; clear hK18 K18; clear hK10 K10; clear hK9 K9; clear hK8 K8; clear hK7 K7; clear hK6 K6; clear hK5 K5; clear hK4 K4; clear hK2 K2; clear hK1 K1; clear hK0 K0; first | omega | contradiction | (simp_all; done) | (simp_all; omega))
          | (
           refine SW.seq_k ?_
           intro K20 hK20
           refine SW.region _ _ _ _ ?_
           refine RL.st ?_
           refine NV.p T ?_
           refine RL.st ?_
           refine NV.p T ?_
           refine RL.nil _ _ _ _ ?_
           refine hK20 _ _ _ ?_
           refine SW.sat (fun hs => ?_)
           refine SW.ret ?_
           refine retQ.ret (RVs.tmp (by conv => lhs; whnf) (RVs.tmp (by conv => lhs; whnf) RVs.nil)) (fun w hw => hw) ?_
           clear hK20 K20 hK19 K19 hK18 K18 hK10 K10 hK9 K9 hK8 K8 hK7 K7 hK6 K6 hK5 K5 hK4 K4 hK2 K2 hK1 K1 hK0 K0
           first
             | (rw [getV_none hf (hI.bad (by omega) (by assumption) (by omega))]; exact ⟨_, rfl, none, 0, 0, rfl, rfl, Rd.nilS, [_, _, _], rfl⟩)
             | (rw [getV_more hf ((show d = true by assumption) ▸ hI.done (by omega))]; exact ⟨_, rfl, none, 0, 0, rfl, rfl, Rd.nilS, [_, _, _], rfl⟩)
             | (rw [getV_ok hf ((show d = false by assumption) ▸ hI.done (by omega))]; exact ⟨_, rfl, Res.row hs (At.head _ _) (G := [_, _, _]) rfl⟩)
           )
        ·try simp only [decide_eq_true_eq, decide_eq_false_iff_not, Bool.not_eq_true', Bool.not_eq_false', Int.not_lt, Int.not_le, Int.toNat_natCast] at hc4
         first
          | (exfalso; clear hK19 K19; clear hK18 K18; clear hK10 K10; clear hK9 K9; clear hK8 K8; clear hK7 K7; clear hK6 K6; clear hK5 K5; clear hK4 K4; clear hK2 K2; clear hK1 K1; clear hK0 K0; first | omega | contradiction | (simp_all; done) | (simp_all; omega))
          | (
           refine SW.skip ?_
           refine hK18 _ _ _ ?_
           refine SW.seq_k ?_
           intro K21 hK21
           refine SW.region _ _ _ _ ?_
           refine RL.st ?_
           refine NV.p T ?_
           refine RL.st ?_
           refine NV.p T ?_
           refine RL.st ?_
           refine NV.p T ?_
           refine RL.nil _ _ _ _ ?_
           refine hK21 _ _ _ ?_
           refine SW.sat (fun hs => ?_)
           refine SW.ret ?_
           refine retQ.ret (RVs.tmp (by conv => lhs; whnf) (RVs.tmp (by conv => lhs; whnf) RVs.nil)) (fun w hw => hw) ?_
           clear hK21 K21 hK19 K19 hK18 K18 hK10 K10 hK9 K9 hK8 K8 hK7 K7 hK6 K6 hK5 K5 hK4 K4 hK2 K2 hK1 K1 hK0 K0
           first
             | (rw [getV_none hf (hI.bad (by omega) (by assumption) (by omega))]; exact ⟨_, rfl, none, 0, 0, rfl, rfl, Rd.nilS, [_, _, _], rfl⟩)
             | (rw [getV_more hf ((show d = true by assumption) ▸ hI.done (by omega))]; exact ⟨_, rfl, none, 0, 0, rfl, rfl, Rd.nilS, [_, _, _], rfl⟩)
             | (rw [getV_ok hf ((show d = false by assumption) ▸ hI.done (by omega))]; exact ⟨_, rfl, Res.row hs (At.head _ _) (G := [_, _, _]) rfl⟩)
           )
        )
    )
theorem rget_bad {w0 : World} {H : List Chunk} (prev ev : Int) (ah : Bool) (sa : Option Addr) (n c : Nat) (es : List Int) (hR : Rd w0 H sa n c 1 (es.map (.int .u8))) (hn : n = es.length) (hm : n ≤ 140737488351232) (h : 1 < prev ∨ chk es ≠ 0 ∨ ¬ (1 ≤ ev ∧ ev ≤ 64)) : SC Try.prog w0 16 #[.int .u8 prev, .slice sa n c, .agg #[.int .i64 ev, .bool ah]] H (fun v H' => v = .tuple #[.slice none 0 0, .int .i64 2] ∧ H' = H) := by
 refine SC.enter Try.func16 rfl (Nat.le_of_ble_eq_true rfl) ?_
 refine SW.seq_k ?_
 intro K0 hK0
 refine SW.region _ _ _ _ ?_
 refine RL.st ?_
 refine NV.box rfl (by exact (rfl : _ = [_, _])) ?_
 intro b5_0
 refine RL.st ?_
 refine NV.p T ?_
 refine RL.st ?_
 refine NV.p T ?_
 refine RL.nil _ _ _ _ ?_
 refine hK0 _ _ _ ?_
 refine SW.seq_k ?_
 intro K1 hK1
 refine SW.seq_k ?_
 intro K2 hK2
 refine SW.region _ _ _ _ ?_
 refine RL.st ?_
 refine NV.p T ?_
 refine RL.st ?_
 refine NV.p T ?_
 refine RL.st ?_
 refine NV.p T ?_
 refine RL.split 16 rfl (fun hs0 => ?_) (fun hs0 => ?_)
 ·try simp only [decide_eq_true_eq, decide_eq_false_iff_not, Bool.not_eq_true', Bool.not_eq_false', Int.not_lt, Int.not_le, Int.toNat_natCast] at hs0
  first
   | (exfalso; clear hK2 K2; clear hK1 K1; clear hK0 K0; first | omega | contradiction | (simp_all; done) | (simp_all; omega))
   | (
    refine RL.guard_no rfl rfl rfl ?_
    refine RL.guard_no rfl rfl rfl ?_
    refine RL.guard_no rfl rfl rfl ?_
    refine RL.st ?_
    refine NV.p T ?_
    refine RL.st ?_
    refine NV.p T ?_
    refine RL.guard_no rfl rfl rfl ?_
    refine RL.guard_no rfl rfl rfl ?_
    refine RL.guard_no rfl rfl rfl ?_
    refine RL.st ?_
    refine NV.p T ?_
    refine RL.st ?_
    refine NV.p T ?_
    refine RL.guard_no rfl rfl rfl ?_
    refine RL.guard_no rfl rfl rfl ?_
    refine RL.guard_no rfl rfl rfl ?_
    refine RL.st ?_
    refine NV.p T ?_
    refine RL.nil _ _ _ _ ?_
    refine hK2 _ _ _ ?_
    refine SW.cond_t rfl ?_
    refine SW.seq_k ?_
    intro K3 hK3
    refine SW.region _ _ _ _ ?_
    refine RL.st ?_
    refine NV.p T ?_
    refine RL.st ?_
    refine NV.p T ?_
    refine RL.nil _ _ _ _ ?_
    refine hK3 _ _ _ ?_
    refine SW.ret ?_
    refine retQ.ret (H' := H) (RVs.tmp (by conv => lhs; whnf) (RVs.tmp (by conv => lhs; whnf) RVs.nil)) (fun w hw => Sat.sub (by repeat first | exact List.Sublist.refl _ | apply List.Sublist.cons_cons | apply List.Sublist.cons | exact List.sublist_append_right _ _ | refine List.Sublist.trans ?_ (List.sublist_append_right _ _)) hw) ?_
    clear hK3 K3 hK2 K2 hK1 K1 hK0 K0
    exact ⟨rfl, rfl⟩
    )
 ·try simp only [decide_eq_true_eq, decide_eq_false_iff_not, Bool.not_eq_true', Bool.not_eq_false', Int.not_lt, Int.not_le, Int.toNat_natCast] at hs0
  first
   | (exfalso; clear hK2 K2; clear hK1 K1; clear hK0 K0; first | omega | contradiction | (simp_all; done) | (simp_all; omega))
   | (
    refine RL.st ?_
    refine NV.p T ?_
    refine RL.st ?_
    refine NV.call rfl rfl rfl fun30 rfl rfl (rcheck sa n c es hR.cons hn hm) ?_
    rintro _ _ ⟨rfl, e⟩; obtain rfl := e.symm
    refine RL.st ?_
    refine NV.p T ?_
    refine RL.st ?_
    refine NV.p T ?_
    refine RL.st ?_
    refine NV.p T ?_
    refine RL.split 21 rfl (fun hs1 => ?_) (fun hs1 => ?_)
    ·try simp only [decide_eq_true_eq, decide_eq_false_iff_not, Bool.not_eq_true', Bool.not_eq_false', Int.not_lt, Int.not_le, Int.toNat_natCast] at hs1
     first
      | (exfalso; clear hK2 K2; clear hK1 K1; clear hK0 K0; first | omega | contradiction | (simp_all; done) | (simp_all; omega))
      | (
       refine RL.guard_no rfl rfl rfl ?_
       refine RL.guard_no rfl rfl rfl ?_
       refine RL.guard_no rfl rfl rfl ?_
       refine RL.st ?_
       refine NV.p T ?_
       refine RL.st ?_
       refine NV.p T ?_
       refine RL.guard_no rfl rfl rfl ?_
       refine RL.guard_no rfl rfl rfl ?_
       refine RL.guard_no rfl rfl rfl ?_
       refine RL.st ?_
       refine NV.p T ?_
       refine RL.nil _ _ _ _ ?_
       refine hK2 _ _ _ ?_
       refine SW.cond_t rfl ?_
       refine SW.seq_k ?_
       intro K4 hK4
       refine SW.region _ _ _ _ ?_
       refine RL.st ?_
       refine NV.p T ?_
       refine RL.st ?_
       refine NV.p T ?_
       refine RL.nil _ _ _ _ ?_
       refine hK4 _ _ _ ?_
       refine SW.ret ?_
       refine retQ.ret (H' := H) (RVs.tmp (by conv => lhs; whnf) (RVs.tmp (by conv => lhs; whnf) RVs.nil)) (fun w hw => Sat.sub (by repeat first | exact List.Sublist.refl _ | apply List.Sublist.cons_cons | apply List.Sublist.cons | exact List.sublist_append_right _ _ | refine List.Sublist.trans ?_ (List.sublist_append_right _ _)) hw) ?_
       clear hK4 K4 hK2 K2 hK1 K1 hK0 K0
       exact ⟨rfl, rfl⟩
       )
    ·try simp only [decide_eq_true_eq, decide_eq_false_iff_not, Bool.not_eq_true', Bool.not_eq_false', Int.not_lt, Int.not_le, Int.toNat_natCast] at hs1
     first
      | (exfalso; clear hK2 K2; clear hK1 K1; clear hK0 K0; first | omega | contradiction | (simp_all; done) | (simp_all; omega))
      | (
       refine RL.st ?_
       refine NV.p T ?_
       refine RL.st ?_
       refine NV.lv1 T ?_
       refine RL.st ?_
       refine NV.p T ?_
       refine RL.st ?_
       refine NV.p T ?_
       refine RL.st ?_
       refine NV.p T ?_
       refine RL.split 26 rfl (fun hs2 => ?_) (fun hs2 => ?_)
       ·try simp only [decide_eq_true_eq, decide_eq_false_iff_not, Bool.not_eq_true', Bool.not_eq_false', Int.not_lt, Int.not_le, Int.toNat_natCast] at hs2
        first
         | (exfalso; clear hK2 K2; clear hK1 K1; clear hK0 K0; first | omega | contradiction | (simp_all; done) | (simp_all; omega))
         | (
          refine RL.guard_no rfl rfl rfl ?_
          refine RL.guard_no rfl rfl rfl ?_
          refine RL.guard_no rfl rfl rfl ?_
          refine RL.st ?_
          refine NV.p T ?_
          refine RL.nil _ _ _ _ ?_
          refine hK2 _ _ _ ?_
          refine SW.cond_t rfl ?_
          refine SW.seq_k ?_
          intro K5 hK5
          refine SW.region _ _ _ _ ?_
          refine RL.st ?_
          refine NV.p T ?_
          refine RL.st ?_
          refine NV.p T ?_
          refine RL.nil _ _ _ _ ?_
          refine hK5 _ _ _ ?_
          refine SW.ret ?_
          refine retQ.ret (H' := H) (RVs.tmp (by conv => lhs; whnf) (RVs.tmp (by conv => lhs; whnf) RVs.nil)) (fun w hw => Sat.sub (by repeat first | exact List.Sublist.refl _ | apply List.Sublist.cons_cons | apply List.Sublist.cons | exact List.sublist_append_right _ _ | refine List.Sublist.trans ?_ (List.sublist_append_right _ _)) hw) ?_
          clear hK5 K5 hK2 K2 hK1 K1 hK0 K0
          exact ⟨rfl, rfl⟩
          )
       ·try simp only [decide_eq_true_eq, decide_eq_false_iff_not, Bool.not_eq_true', Bool.not_eq_false', Int.not_lt, Int.not_le, Int.toNat_natCast] at hs2
        first
         | (exfalso; clear hK2 K2; clear hK1 K1; clear hK0 K0; first | omega | contradiction | (simp_all; done) | (simp_all; omega))
         | (
          refine RL.st ?_
          refine NV.p T ?_
          refine RL.st ?_
          refine NV.lv1 T ?_
          refine RL.st ?_
          refine NV.p T ?_
          refine RL.st ?_
          refine NV.p T ?_
          refine RL.nil _ _ _ _ ?_
          refine hK2 _ _ _ ?_
          refine SW.cond rfl (fun hc0 => ?_) (fun hc0 => ?_)
          ·try simp only [decide_eq_true_eq, decide_eq_false_iff_not, Bool.not_eq_true', Bool.not_eq_false', Int.not_lt, Int.not_le, Int.toNat_natCast] at hc0
           first
            | (exfalso; clear hK2 K2; clear hK1 K1; clear hK0 K0; first | omega | contradiction | (simp_all; done) | (simp_all; omega))
            | (
             refine SW.seq_k ?_
             intro K6 hK6
             refine SW.region _ _ _ _ ?_
             refine RL.st ?_
             refine NV.p T ?_
             refine RL.st ?_
             refine NV.p T ?_
             refine RL.nil _ _ _ _ ?_
             refine hK6 _ _ _ ?_
             refine SW.ret ?_
             refine retQ.ret (H' := H) (RVs.tmp (by conv => lhs; whnf) (RVs.tmp (by conv => lhs; whnf) RVs.nil)) (fun w hw => Sat.sub (by repeat first | exact List.Sublist.refl _ | apply List.Sublist.cons_cons | apply List.Sublist.cons | exact List.sublist_append_right _ _ | refine List.Sublist.trans ?_ (List.sublist_append_right _ _)) hw) ?_
             clear hK6 K6 hK2 K2 hK1 K1 hK0 K0
             exact ⟨rfl, rfl⟩
             )
          ·try simp only [decide_eq_true_eq, decide_eq_false_iff_not, Bool.not_eq_true', Bool.not_eq_false', Int.not_lt, Int.not_le, Int.toNat_natCast] at hc0
           exfalso; clear hK2 K2; clear hK1 K1; clear hK0 K0; first | omega | contradiction | (simp_all; done) | (simp_all; omega)
          )
       )
    )
theorem rget_ok {w0 : World} {H : List Chunk} (prev ev : Int) (ah : Bool) (sa : Option Addr) (n c : Nat) (es : List Int) (hR : Rd w0 H sa n c 1 (es.map (.int .u8))) (hn : n = es.length) (hm : n ≤ 140737488351232) (hf : fck prev es ev = true) (e1 : 1 ≤ ev) (e2 : ev ≤ 64) (p0 : 0 ≤ prev) (p1 : prev ≤ 1) (hz : Bit es) (hc : chk es = 0) : SC Try.prog w0 16 #[.int .u8 prev, .slice sa n c, .agg #[.int .i64 ev, .bool ah]] H (fun v H' => RV w0 H (getV prev es ev ah).1 (getV prev es ev ah).2 v H') := by
 refine SC.enter Try.func16 rfl (Nat.le_of_ble_eq_true rfl) ?_
 refine SW.seq_k ?_
 intro K0 hK0
 refine SW.region _ _ _ _ ?_
 refine RL.st ?_
 refine NV.box rfl (by exact (rfl : _ = [_, _])) ?_
 intro b5_0
 refine RL.st ?_
 refine NV.p T ?_
 refine RL.st ?_
 refine NV.p T ?_
 refine RL.nil _ _ _ _ ?_
 refine hK0 _ _ _ ?_
 refine SW.seq_k ?_
 intro K1 hK1
 refine SW.seq_k ?_
 intro K2 hK2
 refine SW.region _ _ _ _ ?_
 refine RL.st ?_
 refine NV.p T ?_
 refine RL.st ?_
 refine NV.p T ?_
 refine RL.st ?_
 refine NV.p T ?_
 refine RL.split 16 rfl (fun hs0 => ?_) (fun hs0 => ?_)
 ·try simp only [decide_eq_true_eq, decide_eq_false_iff_not, Bool.not_eq_true', Bool.not_eq_false', Int.not_lt, Int.not_le, Int.toNat_natCast] at hs0
  first
   | (exfalso; clear hK2 K2; clear hK1 K1; clear hK0 K0; first | omega | contradiction)
   | (
    refine RL.guard_no rfl rfl rfl ?_
    refine RL.guard_no rfl rfl rfl ?_
    refine RL.guard_no rfl rfl rfl ?_
    refine RL.st ?_
    refine NV.p T ?_
    refine RL.st ?_
    refine NV.p T ?_
    refine RL.guard_no rfl rfl rfl ?_
    refine RL.guard_no rfl rfl rfl ?_
    refine RL.guard_no rfl rfl rfl ?_
    refine RL.st ?_
    refine NV.p T ?_
    refine RL.st ?_
    refine NV.p T ?_
    refine RL.guard_no rfl rfl rfl ?_
    refine RL.guard_no rfl rfl rfl ?_
    refine RL.guard_no rfl rfl rfl ?_
    refine RL.st ?_
    refine NV.p T ?_
    refine RL.nil _ _ _ _ ?_
    refine hK2 _ _ _ ?_
    refine SW.cond_t rfl ?_
    refine SW.seq_k ?_
    intro K3 hK3
    refine SW.region _ _ _ _ ?_
    refine RL.st ?_
    refine NV.p T ?_
    refine RL.st ?_
    refine NV.p T ?_
    refine RL.nil _ _ _ _ ?_
    refine hK3 _ _ _ ?_
    refine SW.sat (fun hs => ?_)
    refine SW.ret ?_
    refine retQ.ret (RVs.tmp (by conv => lhs; whnf) (RVs.tmp (by conv => lhs; whnf) RVs.nil)) (fun w hw => hw) ?_
    clear hK3 K3 hK2 K2 hK1 K1 hK0 K0
    first
      | (rw [getV_none hf (hI.gi.bad (by omega) rfl (by simp only [lastAt]; split <;> first | assumption | omega))]; exact ⟨_, rfl, none, 0, 0, rfl, rfl, Rd.nilS, [_, _], rfl⟩)
      | (rw [getV_more hf ((show d = true by assumption) ▸ hI.gi.done (by omega))]; exact ⟨_, rfl, none, 0, 0, rfl, rfl, Rd.nilS, [_, _], rfl⟩)
      | (rw [getV_ok hf ((show d = false by assumption) ▸ hI.gi.done (by omega))]; exact ⟨_, rfl, Res.row hs (At.head _ _) (G := [_, _]) rfl⟩)
    )
 ·try simp only [decide_eq_true_eq, decide_eq_false_iff_not, Bool.not_eq_true', Bool.not_eq_false', Int.not_lt, Int.not_le, Int.toNat_natCast] at hs0
  first
   | (exfalso; clear hK2 K2; clear hK1 K1; clear hK0 K0; first | omega | contradiction)
   | (
    refine RL.st ?_
    refine NV.p T ?_
    refine RL.st ?_
    refine NV.call rfl rfl rfl fun30 rfl rfl ((rcheck sa n c es hR.cons hn hm).mono (fun v H' h => by rw [hc] at h; exact h)) ?_
    rintro _ _ ⟨rfl, e⟩; obtain rfl := e.symm
    refine RL.st ?_
    refine NV.p T ?_
    refine RL.st ?_
    refine NV.p T ?_
    refine RL.st ?_
    refine NV.p T ?_
    refine RL.split 21 rfl (fun hs1 => ?_) (fun hs1 => ?_)
    ·try simp only [decide_eq_true_eq, decide_eq_false_iff_not, Bool.not_eq_true', Bool.not_eq_false', Int.not_lt, Int.not_le, Int.toNat_natCast] at hs1
     first
      | (exfalso; clear hK2 K2; clear hK1 K1; clear hK0 K0; first | omega | contradiction)
      | (
       refine RL.guard_no rfl rfl rfl ?_
       refine RL.guard_no rfl rfl rfl ?_
       refine RL.guard_no rfl rfl rfl ?_
       refine RL.st ?_
       refine NV.p T ?_
       refine RL.st ?_
       refine NV.p T ?_
       refine RL.guard_no rfl rfl rfl ?_
       refine RL.guard_no rfl rfl rfl ?_
       refine RL.guard_no rfl rfl rfl ?_
       refine RL.st ?_
       refine NV.p T ?_
       refine RL.nil _ _ _ _ ?_
       refine hK2 _ _ _ ?_
       refine SW.cond_t rfl ?_
       refine SW.seq_k ?_
       intro K4 hK4
       refine SW.region _ _ _ _ ?_
       refine RL.st ?_
       refine NV.p T ?_
       refine RL.st ?_
       refine NV.p T ?_
       refine RL.nil _ _ _ _ ?_
       refine hK4 _ _ _ ?_
       refine SW.sat (fun hs => ?_)
       refine SW.ret ?_
       refine retQ.ret (RVs.tmp (by conv => lhs; whnf) (RVs.tmp (by conv => lhs; whnf) RVs.nil)) (fun w hw => hw) ?_
       clear hK4 K4 hK2 K2 hK1 K1 hK0 K0
       first
         | (rw [getV_none hf (hI.gi.bad (by omega) rfl (by simp only [lastAt]; split <;> first | assumption | omega))]; exact ⟨_, rfl, none, 0, 0, rfl, rfl, Rd.nilS, [_, _], rfl⟩)
         | (rw [getV_more hf ((show d = true by assumption) ▸ hI.gi.done (by omega))]; exact ⟨_, rfl, none, 0, 0, rfl, rfl, Rd.nilS, [_, _], rfl⟩)
         | (rw [getV_ok hf ((show d = false by assumption) ▸ hI.gi.done (by omega))]; exact ⟨_, rfl, Res.row hs (At.head _ _) (G := [_, _]) rfl⟩)
       )
    ·try simp only [decide_eq_true_eq, decide_eq_false_iff_not, Bool.not_eq_true', Bool.not_eq_false', Int.not_lt, Int.not_le, Int.toNat_natCast] at hs1
     first
      | (exfalso; clear hK2 K2; clear hK1 K1; clear hK0 K0; first | omega | contradiction)
      | (
       refine RL.st ?_
       refine NV.p T ?_
       refine RL.st ?_
       refine NV.lv1 T ?_
       refine RL.st ?_
       refine NV.p T ?_
       refine RL.st ?_
       refine NV.p T ?_
       refine RL.st ?_
       refine NV.p T ?_
       refine RL.split 26 rfl (fun hs2 => ?_) (fun hs2 => ?_)
       ·try simp only [decide_eq_true_eq, decide_eq_false_iff_not, Bool.not_eq_true', Bool.not_eq_false', Int.not_lt, Int.not_le, Int.toNat_natCast] at hs2
        first
         | (exfalso; clear hK2 K2; clear hK1 K1; clear hK0 K0; first | omega | contradiction)
         | (
          refine RL.guard_no rfl rfl rfl ?_
          refine RL.guard_no rfl rfl rfl ?_
          refine RL.guard_no rfl rfl rfl ?_
          refine RL.st ?_
          refine NV.p T ?_
          refine RL.nil _ _ _ _ ?_
          refine hK2 _ _ _ ?_
          refine SW.cond_t rfl ?_
          refine SW.seq_k ?_
          intro K5 hK5
          refine SW.region _ _ _ _ ?_
          refine RL.st ?_
          refine NV.p T ?_
          refine RL.st ?_
          refine NV.p T ?_
          refine RL.nil _ _ _ _ ?_
          refine hK5 _ _ _ ?_
          refine SW.sat (fun hs => ?_)
          refine SW.ret ?_
          refine retQ.ret (RVs.tmp (by conv => lhs; whnf) (RVs.tmp (by conv => lhs; whnf) RVs.nil)) (fun w hw => hw) ?_
          clear hK5 K5 hK2 K2 hK1 K1 hK0 K0
          first
            | (rw [getV_none hf (hI.gi.bad (by omega) rfl (by simp only [lastAt]; split <;> first | assumption | omega))]; exact ⟨_, rfl, none, 0, 0, rfl, rfl, Rd.nilS, [_, _], rfl⟩)
            | (rw [getV_more hf ((show d = true by assumption) ▸ hI.gi.done (by omega))]; exact ⟨_, rfl, none, 0, 0, rfl, rfl, Rd.nilS, [_, _], rfl⟩)
            | (rw [getV_ok hf ((show d = false by assumption) ▸ hI.gi.done (by omega))]; exact ⟨_, rfl, Res.row hs (At.head _ _) (G := [_, _]) rfl⟩)
          )
       ·try simp only [decide_eq_true_eq, decide_eq_false_iff_not, Bool.not_eq_true', Bool.not_eq_false', Int.not_lt, Int.not_le, Int.toNat_natCast] at hs2
        first
         | (exfalso; clear hK2 K2; clear hK1 K1; clear hK0 K0; first | omega | contradiction)
         | (
          refine RL.st ?_
          refine NV.p T ?_
          refine RL.st ?_
          refine NV.lv1 T ?_
          refine RL.st ?_
          refine NV.p T ?_
          refine RL.st ?_
          refine NV.p T ?_
          refine RL.nil _ _ _ _ ?_
          refine hK2 _ _ _ ?_
          refine SW.cond rfl (fun hc0 => ?_) (fun hc0 => ?_)
          ·try simp only [decide_eq_true_eq, decide_eq_false_iff_not, Bool.not_eq_true', Bool.not_eq_false', Int.not_lt, Int.not_le, Int.toNat_natCast] at hc0
           first
            | (exfalso; clear hK2 K2; clear hK1 K1; clear hK0 K0; first | omega | contradiction)
            | (
             refine SW.seq_k ?_
             intro K6 hK6
             refine SW.region _ _ _ _ ?_
             refine RL.st ?_
             refine NV.p T ?_
             refine RL.st ?_
             refine NV.p T ?_
             refine RL.nil _ _ _ _ ?_
             refine hK6 _ _ _ ?_
             refine SW.sat (fun hs => ?_)
             refine SW.ret ?_
             refine retQ.ret (RVs.tmp (by conv => lhs; whnf) (RVs.tmp (by conv => lhs; whnf) RVs.nil)) (fun w hw => hw) ?_
             clear hK6 K6 hK2 K2 hK1 K1 hK0 K0
             first
               | (rw [getV_none hf (hI.gi.bad (by omega) rfl (by simp only [lastAt]; split <;> first | assumption | omega))]; exact ⟨_, rfl, none, 0, 0, rfl, rfl, Rd.nilS, [_, _], rfl⟩)
               | (rw [getV_more hf ((show d = true by assumption) ▸ hI.gi.done (by omega))]; exact ⟨_, rfl, none, 0, 0, rfl, rfl, Rd.nilS, [_, _], rfl⟩)
               | (rw [getV_ok hf ((show d = false by assumption) ▸ hI.gi.done (by omega))]; exact ⟨_, rfl, Res.row hs (At.head _ _) (G := [_, _]) rfl⟩)
             )
          ·try simp only [decide_eq_true_eq, decide_eq_false_iff_not, Bool.not_eq_true', Bool.not_eq_false', Int.not_lt, Int.not_le, Int.toNat_natCast] at hc0
           first
            | (exfalso; clear hK2 K2; clear hK1 K1; clear hK0 K0; first | omega | contradiction)
            | (
             refine SW.skip ?_
             refine hK1 _ _ _ ?_
             refine SW.seq_k ?_
             intro K7 hK7
             refine SW.region _ _ _ _ ?_
             refine RL.nilrow 5 1 ?_
             refine RL.st ?_
             refine NV.p T ?_
             refine RL.nil _ _ _ _ ?_
             refine hK7 _ _ _ ?_
             refine SW.seq_k ?_
             intro K8 hK8
             refine SW.region _ _ _ _ ?_
             refine RL.st ?_
             refine NV.p T ?_
             refine RL.nil _ _ _ _ ?_
             refine hK8 _ _ _ ?_
             refine SW.seq_k ?_
             intro K9 hK9
             refine SW.region _ _ _ _ ?_
             refine RL.st ?_
             refine NV.p T ?_
             refine RL.st ?_
             refine NV.lv1 T ?_
             refine RL.st ?_
             refine NV.p T ?_
             refine RL.nil _ _ _ _ ?_
             refine hK9 _ _ _ ?_
             refine SW.seq_k ?_
             intro K10 hK10
             refine SW.seq_k ?_
             intro K11 hK11
             refine SW.region _ _ _ _ ?_
             refine RL.st ?_
             refine NV.p T ?_
             refine RL.st ?_
             refine NV.p T ?_
             refine RL.st ?_
             refine NV.p T ?_
             refine RL.nil _ _ _ _ ?_
             refine hK11 _ _ _ ?_
             refine SW.block ?_
             refine SW.loopM (fun frB mm fr ds HH => ∃ (k : Nat) (d due : Bool) (sr : Option Addr) (L cr : Nat) (out : List Int), mm = n - k ∧ (k ≤ n ∧ (L = out.length ∧ QI ev prev ah es k d due out)) ∧ FrIs [6, 7, 8, 9, 10, 11, 12, 13, 35, 36, 37, 38, 39, 40, 41, 42, 43, 44, 45, 46, 47, 48, 49, 50, 51, 52, 53, 54, 55, 56, 57, 58, 59, 60, 61, 62, 63, 64, 65, 66, 67, 68, 69, 70, 71] frB fr [(35, .int .i64 k), (8, .slice sr L cr), (9, .bool d), (10, .bool due)] ∧ ds = [] ∧ HH = (.row sr L cr 5 1 (out.map (.int .u8)) :: .var b5_0 24 [.int .i64 ev, .bool ah] :: H)) (n := n - 0) ?_ ?_
             ·exact ⟨0, false, ah, none, 0, 0, [], rfl, ⟨Nat.zero_le _, ⟨rfl, QI.start e1 p0 p1⟩⟩, (.cons rfl (.cons rfl (.cons rfl (.consB rfl (by first | rfl | assumption | exact decide_eq_true (by assumption) | exact decide_eq_false (by assumption) | (clear hK11 K11; clear hK10 K10; clear hK9 K9; clear hK8 K8; clear hK7 K7; clear hK2 K2; clear hK1 K1; clear hK0 K0;  simp_all)) (.nil (by repeat first | exact Mx.refl | exact Mx.mix | refine Mx.put rfl ?_ | refine Mx.upd rfl ?_ | refine Mx.updl rfl ?_ | refine Mx.fin rfl ?_ | refine Mx.inner rfl ?_ | refine Mx.none ?_)))))), rfl, rfl⟩
             ·rintro mm fr ds HH ⟨k, d, due, sr, L, cr, out, rfl, ⟨hk, ⟨hL, hI⟩⟩, hFr, rfl, eHH⟩
              obtain rfl := eHH.symm
              obtain ⟨frU, rfl⟩ := hFr.eq
              clear hFr
              have hlen := hI.gi.len
              have hkn := hI.gi.kn
              have hzk := hz k
              rcases due with _ | _
              ·skip
               refine SW.seq_k ?_
               intro K12 hK12
               refine SW.region _ _ _ _ ?_
               refine RL.st ?_
               refine NV.p T ?_
               refine RL.nil _ _ _ _ ?_
               refine hK12 _ _ _ ?_
               refine SW.seq_k ?_
               intro K13 hK13
               refine SW.cond rfl (fun hc1 => ?_) (fun hc1 => ?_)
               ·try simp only [decide_eq_true_eq, decide_eq_false_iff_not, Bool.not_eq_true', Bool.not_eq_false', Int.not_lt, Int.not_le, Int.toNat_natCast] at hc1
                first
                 | (exfalso; clear hK13 K13; clear hK12 K12; clear hK11 K11; clear hK10 K10; clear hK9 K9; clear hK8 K8; clear hK7 K7; clear hK2 K2; clear hK1 K1; clear hK0 K0; first | omega | contradiction)
                 | (
                  refine SW.skip ?_
                  refine hK13 _ _ _ ?_
                  refine SW.seq_k ?_
                  intro K14 hK14
                  refine SW.block ?_
                  refine SW.seq_k ?_
                  intro K15 hK15
                  refine SW.region _ _ _ _ ?_
                  refine RL.st ?_
                  refine NV.p T ?_
                  refine RL.st ?_
                  first
                    | refine NV.index_array T rfl rfl rfl rfl rfl (by omega) (by omega) ?_
                    | refine NV.index_slice T rfl rfl rfl rfl rfl (by first | exact hR | exact hR.cons | exact hR.cons.cons | exact hR.cons.cons.cons | exact Rd.row (At.head _ _) hs) (by omega) (by omega) ?_
                  refine RL.st ?_
                  refine NV.load_elem T rfl rfl rfl rfl (by first | exact hR | exact hR.cons | exact hR.cons.cons | exact hR.cons.cons.cons | exact Rd.row (At.head _ _) hs) (by first | exact map_get _ _ (by omega) | assumption) ?_
                  refine RL.st ?_
                  refine NV.p T ?_
                  refine RL.st ?_
                  refine NV.p T ?_
                  refine RL.nil _ _ _ _ ?_
                  refine hK15 _ _ _ ?_
                  refine SW.seq_k ?_
                  intro K16 hK16
                  refine SW.region _ _ _ _ ?_
                  refine RL.st ?_
                  refine NV.p T ?_
                  refine RL.st ?_
                  refine NV.p T ?_
                  refine RL.nil _ _ _ _ ?_
                  refine hK16 _ _ _ ?_
                  refine SW.seq_k ?_
                  intro K17 hK17
                  refine SW.seq_k ?_
                  intro K18 hK18
                  refine SW.region _ _ _ _ ?_
                  refine RL.st ?_
                  refine NV.p T ?_
                  refine RL.st ?_
                  refine NV.p T ?_
                  refine RL.nil _ _ _ _ ?_
                  refine hK18 _ _ _ ?_
                  refine SW.cond rfl (fun hc2 => ?_) (fun hc2 => ?_)
                  ·try simp only [decide_eq_true_eq, decide_eq_false_iff_not, Bool.not_eq_true', Bool.not_eq_false', Int.not_lt, Int.not_le, Int.toNat_natCast] at hc2
                   first
                    | (exfalso; clear hK18 K18; clear hK17 K17; clear hK16 K16; clear hK15 K15; clear hK14 K14; clear hK13 K13; clear hK12 K12; clear hK11 K11; clear hK10 K10; clear hK9 K9; clear hK8 K8; clear hK7 K7; clear hK2 K2; clear hK1 K1; clear hK0 K0; first | omega | contradiction)
                    | (
                     refine SW.region _ _ _ _ ?_
                     refine RL.st ?_
                     refine NV.p T ?_
                     refine RL.st ?_
                     refine NV.p T ?_
                     refine RL.st ?_
                     first | refine NV.arith rfl rfl rfl rfl (by omega) (by omega) ?_ | refine NV.p T ?_
                     refine RL.st ?_
                     first
                       | refine NV.index_array T rfl rfl rfl rfl rfl (by omega) (by omega) ?_
                       | refine NV.index_slice T rfl rfl rfl rfl rfl (by first | exact hR | exact hR.cons | exact hR.cons.cons | exact hR.cons.cons.cons | exact Rd.row (At.head _ _) hs) (by omega) (by omega) ?_
                     refine RL.st ?_
                     refine NV.load_elem T rfl rfl rfl rfl (by first | exact hR | exact hR.cons | exact hR.cons.cons | exact hR.cons.cons.cons | exact Rd.row (At.head _ _) hs) (by first | exact map_get _ _ (by omega) | assumption) ?_
                     refine RL.st ?_
                     refine NV.p T ?_
                     refine RL.nil _ _ _ _ ?_
                     refine hK17 _ _ _ ?_
                     refine SW.seq_k ?_
                     intro K19 hK19
                     refine SW.region _ _ _ _ ?_
                     refine RL.st ?_
                     refine NV.p T ?_
                     refine RL.st ?_
                     refine NV.p T ?_
                     refine RL.nil _ _ _ _ ?_
                     refine hK19 _ _ _ ?_
                     refine SW.seq_k ?_
                     intro K20 hK20
                     refine SW.seq_k ?_
                     intro K21 hK21
                     refine SW.region _ _ _ _ ?_
                     refine RL.st ?_
                     refine NV.p T ?_
                     refine RL.st ?_
                     refine NV.p T ?_
                     refine RL.split 50 rfl (fun hs3 => ?_) (fun hs3 => ?_)
                     ·try simp only [decide_eq_true_eq, decide_eq_false_iff_not, Bool.not_eq_true', Bool.not_eq_false', Int.not_lt, Int.not_le, Int.toNat_natCast] at hs3
                      first
                       | (exfalso; clear hK21 K21; clear hK20 K20; clear hK19 K19; clear hK18 K18; clear hK17 K17; clear hK16 K16; clear hK15 K15; clear hK14 K14; clear hK13 K13; clear hK12 K12; clear hK11 K11; clear hK10 K10; clear hK9 K9; clear hK8 K8; clear hK7 K7; clear hK2 K2; clear hK1 K1; clear hK0 K0; first | omega | contradiction)
                       | (
                        refine RL.st ?_
                        refine NV.p T ?_
                        refine RL.st ?_
                        refine NV.p T ?_
                        refine RL.st ?_
                        refine NV.p T ?_
                        refine RL.st ?_
                        refine NV.p T ?_
                        refine RL.nil _ _ _ _ ?_
                        refine hK21 _ _ _ ?_
                        refine SW.cond rfl (fun hc3 => ?_) (fun hc3 => ?_)
                        ·try simp only [decide_eq_true_eq, decide_eq_false_iff_not, Bool.not_eq_true', Bool.not_eq_false', Int.not_lt, Int.not_le, Int.toNat_natCast] at hc3
                         first
                          | (exfalso; clear hK21 K21; clear hK20 K20; clear hK19 K19; clear hK18 K18; clear hK17 K17; clear hK16 K16; clear hK15 K15; clear hK14 K14; clear hK13 K13; clear hK12 K12; clear hK11 K11; clear hK10 K10; clear hK9 K9; clear hK8 K8; clear hK7 K7; clear hK2 K2; clear hK1 K1; clear hK0 K0; first | omega | contradiction)
                          | (
                           refine SW.seq_k ?_
                           intro K22 hK22
                           refine SW.region _ _ _ _ ?_
                           refine RL.st ?_
                           refine NV.p T ?_
                           refine RL.st ?_
                           refine NV.p T ?_
                           refine RL.nil _ _ _ _ ?_
                           refine hK22 _ _ _ ?_
                           refine SW.sat (fun hs => ?_)
                           refine SW.ret ?_
                           refine retQ.ret (RVs.tmp (by conv => lhs; whnf) (RVs.tmp (by conv => lhs; whnf) RVs.nil)) (fun w hw => hw) ?_
                           clear hK22 K22 hK21 K21 hK20 K20 hK19 K19 hK18 K18 hK17 K17 hK16 K16 hK15 K15 hK14 K14 hK13 K13 hK12 K12 hK11 K11 hK10 K10 hK9 K9 hK8 K8 hK7 K7 hK2 K2 hK1 K1 hK0 K0
                           first
                             | (rw [getV_none hf (hI.gi.bad (by omega) rfl (by simp only [lastAt]; split <;> first | assumption | omega))]; exact ⟨_, rfl, none, 0, 0, rfl, rfl, Rd.nilS, [_, _], rfl⟩)
                             | (rw [getV_more hf ((show d = true by assumption) ▸ hI.gi.done (by omega))]; exact ⟨_, rfl, none, 0, 0, rfl, rfl, Rd.nilS, [_, _], rfl⟩)
                             | (rw [getV_ok hf ((show d = false by assumption) ▸ hI.gi.done (by omega))]; exact ⟨_, rfl, Res.row hs (At.head _ _) (G := [_, _]) rfl⟩)
                           )
                        ·try simp only [decide_eq_true_eq, decide_eq_false_iff_not, Bool.not_eq_true', Bool.not_eq_false', Int.not_lt, Int.not_le, Int.toNat_natCast] at hc3
                         first
                          | (exfalso; clear hK21 K21; clear hK20 K20; clear hK19 K19; clear hK18 K18; clear hK17 K17; clear hK16 K16; clear hK15 K15; clear hK14 K14; clear hK13 K13; clear hK12 K12; clear hK11 K11; clear hK10 K10; clear hK9 K9; clear hK8 K8; clear hK7 K7; clear hK2 K2; clear hK1 K1; clear hK0 K0; first | omega | contradiction)
                          | (
                           refine SW.skip ?_
                           refine hK20 _ _ _ ?_
                           refine SW.seq_k ?_
                           intro K23 hK23
                           refine SW.seq_k ?_
                           intro K24 hK24
                           refine SW.region _ _ _ _ ?_
                           refine RL.st ?_
                           refine NV.p T ?_
                           refine RL.st ?_
                           refine NV.p T ?_
                           refine RL.nil _ _ _ _ ?_
                           refine hK24 _ _ _ ?_
                           refine SW.cond rfl (fun hc4 => ?_) (fun hc4 => ?_)
                           ·try simp only [decide_eq_true_eq, decide_eq_false_iff_not, Bool.not_eq_true', Bool.not_eq_false', Int.not_lt, Int.not_le, Int.toNat_natCast] at hc4
                            first
                             | (exfalso; clear hK24 K24; clear hK23 K23; clear hK21 K21; clear hK20 K20; clear hK19 K19; clear hK18 K18; clear hK17 K17; clear hK16 K16; clear hK15 K15; clear hK14 K14; clear hK13 K13; clear hK12 K12; clear hK11 K11; clear hK10 K10; clear hK9 K9; clear hK8 K8; clear hK7 K7; clear hK2 K2; clear hK1 K1; clear hK0 K0; first | omega | contradiction)
                             | (
                              refine SW.region _ _ _ _ ?_
                              refine RL.st ?_
                              refine NV.p T ?_
                              refine RL.st ?_
                              refine NV.p T ?_
                              refine RL.st ?_
                              refine NV.build1 T rfl (by conv => lhs; whnf) rfl rfl (by conv => lhs; whnf) (by exact (rfl : _ = some [_])) ?_
                              intro b59_1
                              refine RL.st ?_
                              first
                                | refine NV.append1 T rfl rfl rfl rfl rfl rfl rfl rfl rfl rfl (by repeat first | exact At.head _ _ | assumption | exact At.put (by assumption) _ | apply At.tail | apply At.app) (ones rfl) (by first | omega | (unfold maxLen; omega)) (by first | omega | (show (_ + _) * 1 ≤ 140737488355328; omega)) ?_
                                | refine NV.append T rfl rfl rfl rfl rfl rfl rfl rfl rfl rfl (by repeat first | exact At.head _ _ | assumption | exact At.put (by assumption) _ | apply At.tail | apply At.app) (by assumption) (ones rfl) (by first | omega | (unfold maxLen; omega)) (by first | omega | (show (_ + _) * 1 ≤ 140737488355328; omega)) ?_
                              intro a0_ c0_
                              refine RL.st ?_
                              refine NV.p T ?_
                              refine RL.nil _ _ _ _ ?_
                              refine hK23 _ _ _ ?_
                              refine SW.region _ _ _ _ ?_
                              refine RL.st ?_
                              refine NV.p T ?_
                              refine RL.st ?_
                              refine NV.p T ?_
                              refine RL.st ?_
                              refine NV.p T ?_
                              refine RL.split 63 rfl (fun hs4 => ?_) (fun hs4 => ?_)
                              ·try simp only [decide_eq_true_eq, decide_eq_false_iff_not, Bool.not_eq_true', Bool.not_eq_false', Int.not_lt, Int.not_le, Int.toNat_natCast] at hs4
                               first
                                | (exfalso; clear hK24 K24; clear hK23 K23; clear hK21 K21; clear hK20 K20; clear hK19 K19; clear hK18 K18; clear hK17 K17; clear hK16 K16; clear hK15 K15; clear hK14 K14; clear hK13 K13; clear hK12 K12; clear hK11 K11; clear hK10 K10; clear hK9 K9; clear hK8 K8; clear hK7 K7; clear hK2 K2; clear hK1 K1; clear hK0 K0; first | omega | contradiction)
                                | (
                                 refine RL.st ?_
                                 refine NV.p T ?_
                                 refine RL.st ?_
                                 refine NV.p T ?_
                                 refine RL.st ?_
                                 refine NV.p T ?_
                                 refine RL.st ?_
                                 refine NV.lv1 T ?_
                                 refine RL.st ?_
                                 refine NV.rem rfl rfl rfl (by omega) rfl ?_
                                 refine RL.st ?_
                                 refine NV.p T ?_
                                 refine RL.st ?_
                                 refine NV.p T ?_
                                 refine RL.st ?_
                                 refine NV.p T ?_
                                 refine RL.nil _ _ _ _ ?_
                                 refine hK14 _ _ _ ?_
                                 refine SW.region _ _ _ _ ?_
                                 refine RL.st ?_
                                 first | refine NV.arith rfl rfl rfl rfl (by omega) (by omega) ?_ | refine NV.p T ?_
                                 refine RL.st ?_
                                 refine NV.p T ?_
                                 refine RL.nil _ _ _ _ ?_
                                 first
                                   | exact ⟨n - (k + 1), (by omega), k + 1, false, decide (((out.length : Int) + 1).tmod ev = 0), _, _, _, out ++ [es.getD k 0], (by rfl), ⟨by omega, ⟨by simp; omega, hI.see (by omega) e1 hzk rfl⟩⟩, (.cons rfl (.cons rfl (.cons rfl (.consB rfl (by first | rfl | assumption | exact decide_eq_true (by assumption) | exact decide_eq_false (by assumption) | (clear hK24 K24; clear hK23 K23; clear hK21 K21; clear hK20 K20; clear hK19 K19; clear hK18 K18; clear hK17 K17; clear hK16 K16; clear hK15 K15; clear hK14 K14; clear hK13 K13; clear hK12 K12; clear hK11 K11; clear hK10 K10; clear hK9 K9; clear hK8 K8; clear hK7 K7; clear hK2 K2; clear hK1 K1; clear hK0 K0;  simp_all)) (.nil (by repeat first | exact Mx.refl | exact Mx.mix | refine Mx.put rfl ?_ | refine Mx.upd rfl ?_ | refine Mx.updl rfl ?_ | refine Mx.fin rfl ?_ | refine Mx.inner rfl ?_ | refine Mx.none ?_)))))), rfl, (by simp)⟩
                                   | exact ⟨n - (k + 1), (by omega), k + 1, true, false, _, _, _, out, (by rfl), ⟨by omega, ⟨by assumption, hI.stuff (by omega) e1 hzk (by simp only [lastAt]; split <;> first | assumption | omega)⟩⟩, (.cons rfl (.cons rfl (.cons rfl (.consB rfl (by first | rfl | assumption | exact decide_eq_true (by assumption) | exact decide_eq_false (by assumption) | (clear hK24 K24; clear hK23 K23; clear hK21 K21; clear hK20 K20; clear hK19 K19; clear hK18 K18; clear hK17 K17; clear hK16 K16; clear hK15 K15; clear hK14 K14; clear hK13 K13; clear hK12 K12; clear hK11 K11; clear hK10 K10; clear hK9 K9; clear hK8 K8; clear hK7 K7; clear hK2 K2; clear hK1 K1; clear hK0 K0;  simp_all)) (.nil (by repeat first | exact Mx.refl | exact Mx.mix | refine Mx.put rfl ?_ | refine Mx.upd rfl ?_ | refine Mx.updl rfl ?_ | refine Mx.fin rfl ?_ | refine Mx.inner rfl ?_ | refine Mx.none ?_)))))), rfl, rfl⟩
                                 )
                              ·try simp only [decide_eq_true_eq, decide_eq_false_iff_not, Bool.not_eq_true', Bool.not_eq_false', Int.not_lt, Int.not_le, Int.toNat_natCast] at hs4
                               first
                                | (exfalso; clear hK24 K24; clear hK23 K23; clear hK21 K21; clear hK20 K20; clear hK19 K19; clear hK18 K18; clear hK17 K17; clear hK16 K16; clear hK15 K15; clear hK14 K14; clear hK13 K13; clear hK12 K12; clear hK11 K11; clear hK10 K10; clear hK9 K9; clear hK8 K8; clear hK7 K7; clear hK2 K2; clear hK1 K1; clear hK0 K0; first | omega | contradiction)
                                | (
                                 refine RL.guard_no rfl rfl rfl ?_
                                 refine RL.guard_no rfl rfl rfl ?_
                                 refine RL.guard_no rfl rfl rfl ?_
                                 refine RL.guard_no rfl rfl rfl ?_
                                 refine RL.guard_no rfl rfl rfl ?_
                                 refine RL.guard_no rfl rfl rfl ?_
                                 refine RL.st ?_
                                 refine NV.p T ?_
                                 refine RL.st ?_
                                 refine NV.p T ?_
                                 refine RL.nil _ _ _ _ ?_
                                 refine hK14 _ _ _ ?_
                                 refine SW.region _ _ _ _ ?_
                                 refine RL.st ?_
                                 first | refine NV.arith rfl rfl rfl rfl (by omega) (by omega) ?_ | refine NV.p T ?_
                                 refine RL.st ?_
                                 refine NV.p T ?_
                                 refine RL.nil _ _ _ _ ?_
                                 first
                                   | exact ⟨n - (k + 1), (by omega), k + 1, false, decide (((out.length : Int) + 1).tmod ev = 0), _, _, _, out ++ [es.getD k 0], (by rfl), ⟨by omega, ⟨by simp; omega, hI.see (by omega) e1 hzk rfl⟩⟩, (.cons rfl (.cons rfl (.cons rfl (.consB rfl (by first | rfl | assumption | exact decide_eq_true (by assumption) | exact decide_eq_false (by assumption) | (clear hK24 K24; clear hK23 K23; clear hK21 K21; clear hK20 K20; clear hK19 K19; clear hK18 K18; clear hK17 K17; clear hK16 K16; clear hK15 K15; clear hK14 K14; clear hK13 K13; clear hK12 K12; clear hK11 K11; clear hK10 K10; clear hK9 K9; clear hK8 K8; clear hK7 K7; clear hK2 K2; clear hK1 K1; clear hK0 K0;  simp_all)) (.nil (by repeat first | exact Mx.refl | exact Mx.mix | refine Mx.put rfl ?_ | refine Mx.upd rfl ?_ | refine Mx.updl rfl ?_ | refine Mx.fin rfl ?_ | refine Mx.inner rfl ?_ | refine Mx.none ?_)))))), rfl, (by simp)⟩
                                   | exact ⟨n - (k + 1), (by omega), k + 1, true, false, _, _, _, out, (by rfl), ⟨by omega, ⟨by assumption, hI.stuff (by omega) e1 hzk (by simp only [lastAt]; split <;> first | assumption | omega)⟩⟩, (.cons rfl (.cons rfl (.cons rfl (.consB rfl (by first | rfl | assumption | exact decide_eq_true (by assumption) | exact decide_eq_false (by assumption) | (clear hK24 K24; clear hK23 K23; clear hK21 K21; clear hK20 K20; clear hK19 K19; clear hK18 K18; clear hK17 K17; clear hK16 K16; clear hK15 K15; clear hK14 K14; clear hK13 K13; clear hK12 K12; clear hK11 K11; clear hK10 K10; clear hK9 K9; clear hK8 K8; clear hK7 K7; clear hK2 K2; clear hK1 K1; clear hK0 K0;  simp_all)) (.nil (by repeat first | exact Mx.refl | exact Mx.mix | refine Mx.put rfl ?_ | refine Mx.upd rfl ?_ | refine Mx.updl rfl ?_ | refine Mx.fin rfl ?_ | refine Mx.inner rfl ?_ | refine Mx.none ?_)))))), rfl, rfl⟩
                                 )
                              )
                           ·try simp only [decide_eq_true_eq, decide_eq_false_iff_not, Bool.not_eq_true', Bool.not_eq_false', Int.not_lt, Int.not_le, Int.toNat_natCast] at hc4
                            first
                             | (exfalso; clear hK24 K24; clear hK23 K23; clear hK21 K21; clear hK20 K20; clear hK19 K19; clear hK18 K18; clear hK17 K17; clear hK16 K16; clear hK15 K15; clear hK14 K14; clear hK13 K13; clear hK12 K12; clear hK11 K11; clear hK10 K10; clear hK9 K9; clear hK8 K8; clear hK7 K7; clear hK2 K2; clear hK1 K1; clear hK0 K0; first | omega | contradiction)
                             | (
                              refine SW.skip ?_
                              refine hK23 _ _ _ ?_
                              refine SW.region _ _ _ _ ?_
                              refine RL.st ?_
                              refine NV.p T ?_
                              refine RL.st ?_
                              refine NV.p T ?_
                              refine RL.st ?_
                              refine NV.p T ?_
                              refine RL.split 63 rfl (fun hs5 => ?_) (fun hs5 => ?_)
                              ·try simp only [decide_eq_true_eq, decide_eq_false_iff_not, Bool.not_eq_true', Bool.not_eq_false', Int.not_lt, Int.not_le, Int.toNat_natCast] at hs5
                               first
                                | (exfalso; clear hK24 K24; clear hK23 K23; clear hK21 K21; clear hK20 K20; clear hK19 K19; clear hK18 K18; clear hK17 K17; clear hK16 K16; clear hK15 K15; clear hK14 K14; clear hK13 K13; clear hK12 K12; clear hK11 K11; clear hK10 K10; clear hK9 K9; clear hK8 K8; clear hK7 K7; clear hK2 K2; clear hK1 K1; clear hK0 K0; first | omega | contradiction)
                                | (
                                 refine RL.st ?_
                                 refine NV.p T ?_
                                 refine RL.st ?_
                                 refine NV.p T ?_
                                 refine RL.st ?_
                                 refine NV.p T ?_
                                 refine RL.st ?_
                                 refine NV.lv1 T ?_
                                 refine RL.st ?_
                                 refine NV.rem rfl rfl rfl (by omega) rfl ?_
                                 refine RL.st ?_
                                 refine NV.p T ?_
                                 refine RL.st ?_
                                 refine NV.p T ?_
                                 refine RL.st ?_
                                 refine NV.p T ?_
                                 refine RL.nil _ _ _ _ ?_
                                 refine hK14 _ _ _ ?_
                                 refine SW.region _ _ _ _ ?_
                                 refine RL.st ?_
                                 first | refine NV.arith rfl rfl rfl rfl (by omega) (by omega) ?_ | refine NV.p T ?_
                                 refine RL.st ?_
                                 refine NV.p T ?_
                                 refine RL.nil _ _ _ _ ?_
                                 first
                                   | exact ⟨n - (k + 1), (by omega), k + 1, false, decide (((out.length : Int) + 1).tmod ev = 0), _, _, _, out ++ [es.getD k 0], (by rfl), ⟨by omega, ⟨by simp; omega, hI.see (by omega) e1 hzk rfl⟩⟩, (.cons rfl (.cons rfl (.cons rfl (.consB rfl (by first | rfl | assumption | exact decide_eq_true (by assumption) | exact decide_eq_false (by assumption) | (clear hK24 K24; clear hK23 K23; clear hK21 K21; clear hK20 K20; clear hK19 K19; clear hK18 K18; clear hK17 K17; clear hK16 K16; clear hK15 K15; clear hK14 K14; clear hK13 K13; clear hK12 K12; clear hK11 K11; clear hK10 K10; clear hK9 K9; clear hK8 K8; clear hK7 K7; clear hK2 K2; clear hK1 K1; clear hK0 K0;  simp_all)) (.nil (by repeat first | exact Mx.refl | exact Mx.mix | refine Mx.put rfl ?_ | refine Mx.upd rfl ?_ | refine Mx.updl rfl ?_ | refine Mx.fin rfl ?_ | refine Mx.inner rfl ?_ | refine Mx.none ?_)))))), rfl, (by simp)⟩
                                   | exact ⟨n - (k + 1), (by omega), k + 1, true, false, _, _, _, out, (by rfl), ⟨by omega, ⟨by assumption, hI.stuff (by omega) e1 hzk (by simp only [lastAt]; split <;> first | assumption | omega)⟩⟩, (.cons rfl (.cons rfl (.cons rfl (.consB rfl (by first | rfl | assumption | exact decide_eq_true (by assumption) | exact decide_eq_false (by assumption) | (clear hK24 K24; clear hK23 K23; clear hK21 K21; clear hK20 K20; clear hK19 K19; clear hK18 K18; clear hK17 K17; clear hK16 K16; clear hK15 K15; clear hK14 K14; clear hK13 K13; clear hK12 K12; clear hK11 K11; clear hK10 K10; clear hK9 K9; clear hK8 K8; clear hK7 K7; clear hK2 K2; clear hK1 K1; clear hK0 K0;  simp_all)) (.nil (by repeat first | exact Mx.refl | exact Mx.mix | refine Mx.put rfl ?_ | refine Mx.upd rfl ?_ | refine Mx.updl rfl ?_ | refine Mx.fin rfl ?_ | refine Mx.inner rfl ?_ | refine Mx.none ?_)))))), rfl, rfl⟩
                                 )
                              ·try simp only [decide_eq_true_eq, decide_eq_false_iff_not, Bool.not_eq_true', Bool.not_eq_false', Int.not_lt, Int.not_le, Int.toNat_natCast] at hs5
                               first
                                | (exfalso; clear hK24 K24; clear hK23 K23; clear hK21 K21; clear hK20 K20; clear hK19 K19; clear hK18 K18; clear hK17 K17; clear hK16 K16; clear hK15 K15; clear hK14 K14; clear hK13 K13; clear hK12 K12; clear hK11 K11; clear hK10 K10; clear hK9 K9; clear hK8 K8; clear hK7 K7; clear hK2 K2; clear hK1 K1; clear hK0 K0; first | omega | contradiction)
                                | (
                                 refine RL.guard_no rfl rfl rfl ?_
                                 refine RL.guard_no rfl rfl rfl ?_
                                 refine RL.guard_no rfl rfl rfl ?_
                                 refine RL.guard_no rfl rfl rfl ?_
                                 refine RL.guard_no rfl rfl rfl ?_
                                 refine RL.guard_no rfl rfl rfl ?_
                                 refine RL.st ?_
                                 refine NV.p T ?_
                                 refine RL.st ?_
                                 refine NV.p T ?_
                                 refine RL.nil _ _ _ _ ?_
                                 refine hK14 _ _ _ ?_
                                 refine SW.region _ _ _ _ ?_
                                 refine RL.st ?_
                                 first | refine NV.arith rfl rfl rfl rfl (by omega) (by omega) ?_ | refine NV.p T ?_
                                 refine RL.st ?_
                                 refine NV.p T ?_
                                 refine RL.nil _ _ _ _ ?_
                                 first
                                   | exact ⟨n - (k + 1), (by omega), k + 1, false, decide (((out.length : Int) + 1).tmod ev = 0), _, _, _, out ++ [es.getD k 0], (by rfl), ⟨by omega, ⟨by simp; omega, hI.see (by omega) e1 hzk rfl⟩⟩, (.cons rfl (.cons rfl (.cons rfl (.consB rfl (by first | rfl | assumption | exact decide_eq_true (by assumption) | exact decide_eq_false (by assumption) | (clear hK24 K24; clear hK23 K23; clear hK21 K21; clear hK20 K20; clear hK19 K19; clear hK18 K18; clear hK17 K17; clear hK16 K16; clear hK15 K15; clear hK14 K14; clear hK13 K13; clear hK12 K12; clear hK11 K11; clear hK10 K10; clear hK9 K9; clear hK8 K8; clear hK7 K7; clear hK2 K2; clear hK1 K1; clear hK0 K0;  simp_all)) (.nil (by repeat first | exact Mx.refl | exact Mx.mix | refine Mx.put rfl ?_ | refine Mx.upd rfl ?_ | refine Mx.updl rfl ?_ | refine Mx.fin rfl ?_ | refine Mx.inner rfl ?_ | refine Mx.none ?_)))))), rfl, (by simp)⟩
                                   | exact ⟨n - (k + 1), (by omega), k + 1, true, false, _, _, _, out, (by rfl), ⟨by omega, ⟨by assumption, hI.stuff (by omega) e1 hzk (by simp only [lastAt]; split <;> first | assumption | omega)⟩⟩, (.cons rfl (.cons rfl (.cons rfl (.consB rfl (by first | rfl | assumption | exact decide_eq_true (by assumption) | exact decide_eq_false (by assumption) | (clear hK24 K24; clear hK23 K23; clear hK21 K21; clear hK20 K20; clear hK19 K19; clear hK18 K18; clear hK17 K17; clear hK16 K16; clear hK15 K15; clear hK14 K14; clear hK13 K13; clear hK12 K12; clear hK11 K11; clear hK10 K10; clear hK9 K9; clear hK8 K8; clear hK7 K7; clear hK2 K2; clear hK1 K1; clear hK0 K0;  simp_all)) (.nil (by repeat first | exact Mx.refl | exact Mx.mix | refine Mx.put rfl ?_ | refine Mx.upd rfl ?_ | refine Mx.updl rfl ?_ | refine Mx.fin rfl ?_ | refine Mx.inner rfl ?_ | refine Mx.none ?_)))))), rfl, rfl⟩
                                 )
                              )
                           )
                        )
                     ·try simp only [decide_eq_true_eq, decide_eq_false_iff_not, Bool.not_eq_true', Bool.not_eq_false', Int.not_lt, Int.not_le, Int.toNat_natCast] at hs3
                      first
                       | (exfalso; clear hK21 K21; clear hK20 K20; clear hK19 K19; clear hK18 K18; clear hK17 K17; clear hK16 K16; clear hK15 K15; clear hK14 K14; clear hK13 K13; clear hK12 K12; clear hK11 K11; clear hK10 K10; clear hK9 K9; clear hK8 K8; clear hK7 K7; clear hK2 K2; clear hK1 K1; clear hK0 K0; first | omega | contradiction)
                       | (
                        refine RL.guard_no rfl rfl rfl ?_
                        refine RL.guard_no rfl rfl rfl ?_
                        refine RL.guard_no rfl rfl rfl ?_
                        refine RL.st ?_
                        refine NV.p T ?_
                        refine RL.nil _ _ _ _ ?_
                        refine hK21 _ _ _ ?_
                        refine SW.cond_f rfl ?_
                        refine SW.skip ?_
                        refine hK20 _ _ _ ?_
                        refine SW.seq_k ?_
                        intro K25 hK25
                        refine SW.seq_k ?_
                        intro K26 hK26
                        refine SW.region _ _ _ _ ?_
                        refine RL.st ?_
                        refine NV.p T ?_
                        refine RL.st ?_
                        refine NV.p T ?_
                        refine RL.nil _ _ _ _ ?_
                        refine hK26 _ _ _ ?_
                        refine SW.cond rfl (fun hc5 => ?_) (fun hc5 => ?_)
                        ·try simp only [decide_eq_true_eq, decide_eq_false_iff_not, Bool.not_eq_true', Bool.not_eq_false', Int.not_lt, Int.not_le, Int.toNat_natCast] at hc5
                         first
                          | (exfalso; clear hK26 K26; clear hK25 K25; clear hK21 K21; clear hK20 K20; clear hK19 K19; clear hK18 K18; clear hK17 K17; clear hK16 K16; clear hK15 K15; clear hK14 K14; clear hK13 K13; clear hK12 K12; clear hK11 K11; clear hK10 K10; clear hK9 K9; clear hK8 K8; clear hK7 K7; clear hK2 K2; clear hK1 K1; clear hK0 K0; first | omega | contradiction)
                          | (
                           refine SW.region _ _ _ _ ?_
                           refine RL.st ?_
                           refine NV.p T ?_
                           refine RL.st ?_
                           refine NV.p T ?_
                           refine RL.st ?_
                           refine NV.build1 T rfl (by conv => lhs; whnf) rfl rfl (by conv => lhs; whnf) (by exact (rfl : _ = some [_])) ?_
                           intro b59_2
                           refine RL.st ?_
                           first
                             | refine NV.append1 T rfl rfl rfl rfl rfl rfl rfl rfl rfl rfl (by repeat first | exact At.head _ _ | assumption | exact At.put (by assumption) _ | apply At.tail | apply At.app) (ones rfl) (by first | omega | (unfold maxLen; omega)) (by first | omega | (show (_ + _) * 1 ≤ 140737488355328; omega)) ?_
                             | refine NV.append T rfl rfl rfl rfl rfl rfl rfl rfl rfl rfl (by repeat first | exact At.head _ _ | assumption | exact At.put (by assumption) _ | apply At.tail | apply At.app) (by assumption) (ones rfl) (by first | omega | (unfold maxLen; omega)) (by first | omega | (show (_ + _) * 1 ≤ 140737488355328; omega)) ?_
                           intro a1_ c1_
                           refine RL.st ?_
                           refine NV.p T ?_
                           refine RL.nil _ _ _ _ ?_
                           refine hK25 _ _ _ ?_
                           refine SW.region _ _ _ _ ?_
                           refine RL.st ?_
                           refine NV.p T ?_
                           refine RL.st ?_
                           refine NV.p T ?_
                           refine RL.st ?_
                           refine NV.p T ?_
                           refine RL.split 63 rfl (fun hs6 => ?_) (fun hs6 => ?_)
                           ·try simp only [decide_eq_true_eq, decide_eq_false_iff_not, Bool.not_eq_true', Bool.not_eq_false', Int.not_lt, Int.not_le, Int.toNat_natCast] at hs6
                            first
                             | (exfalso; clear hK26 K26; clear hK25 K25; clear hK21 K21; clear hK20 K20; clear hK19 K19; clear hK18 K18; clear hK17 K17; clear hK16 K16; clear hK15 K15; clear hK14 K14; clear hK13 K13; clear hK12 K12; clear hK11 K11; clear hK10 K10; clear hK9 K9; clear hK8 K8; clear hK7 K7; clear hK2 K2; clear hK1 K1; clear hK0 K0; first | omega | contradiction)
                             | (
                              refine RL.st ?_
                              refine NV.p T ?_
                              refine RL.st ?_
                              refine NV.p T ?_
                              refine RL.st ?_
                              refine NV.p T ?_
                              refine RL.st ?_
                              refine NV.lv1 T ?_
                              refine RL.st ?_
                              refine NV.rem rfl rfl rfl (by omega) rfl ?_
                              refine RL.st ?_
                              refine NV.p T ?_
                              refine RL.st ?_
                              refine NV.p T ?_
                              refine RL.st ?_
                              refine NV.p T ?_
                              refine RL.nil _ _ _ _ ?_
                              refine hK14 _ _ _ ?_
                              refine SW.region _ _ _ _ ?_
                              refine RL.st ?_
                              first | refine NV.arith rfl rfl rfl rfl (by omega) (by omega) ?_ | refine NV.p T ?_
                              refine RL.st ?_
                              refine NV.p T ?_
                              refine RL.nil _ _ _ _ ?_
                              first
                                | exact ⟨n - (k + 1), (by omega), k + 1, false, decide (((out.length : Int) + 1).tmod ev = 0), _, _, _, out ++ [es.getD k 0], (by rfl), ⟨by omega, ⟨by simp; omega, hI.see (by omega) e1 hzk rfl⟩⟩, (.cons rfl (.cons rfl (.cons rfl (.consB rfl (by first | rfl | assumption | exact decide_eq_true (by assumption) | exact decide_eq_false (by assumption) | (clear hK26 K26; clear hK25 K25; clear hK21 K21; clear hK20 K20; clear hK19 K19; clear hK18 K18; clear hK17 K17; clear hK16 K16; clear hK15 K15; clear hK14 K14; clear hK13 K13; clear hK12 K12; clear hK11 K11; clear hK10 K10; clear hK9 K9; clear hK8 K8; clear hK7 K7; clear hK2 K2; clear hK1 K1; clear hK0 K0;  simp_all)) (.nil (by repeat first | exact Mx.refl | exact Mx.mix | refine Mx.put rfl ?_ | refine Mx.upd rfl ?_ | refine Mx.updl rfl ?_ | refine Mx.fin rfl ?_ | refine Mx.inner rfl ?_ | refine Mx.none ?_)))))), rfl, (by simp)⟩
                                | exact ⟨n - (k + 1), (by omega), k + 1, true, false, _, _, _, out, (by rfl), ⟨by omega, ⟨by assumption, hI.stuff (by omega) e1 hzk (by simp only [lastAt]; split <;> first | assumption | omega)⟩⟩, (.cons rfl (.cons rfl (.cons rfl (.consB rfl (by first | rfl | assumption | exact decide_eq_true (by assumption) | exact decide_eq_false (by assumption) | (clear hK26 K26; clear hK25 K25; clear hK21 K21; clear hK20 K20; clear hK19 K19; clear hK18 K18; clear hK17 K17; clear hK16 K16; clear hK15 K15; clear hK14 K14; clear hK13 K13; clear hK12 K12; clear hK11 K11; clear hK10 K10; clear hK9 K9; clear hK8 K8; clear hK7 K7; clear hK2 K2; clear hK1 K1; clear hK0 K0;  simp_all)) (.nil (by repeat first | exact Mx.refl | exact Mx.mix | refine Mx.put rfl ?_ | refine Mx.upd rfl ?_ | refine Mx.updl rfl ?_ | refine Mx.fin rfl ?_ | refine Mx.inner rfl ?_ | refine Mx.none ?_)))))), rfl, rfl⟩
                              )
                           ·try simp only [decide_eq_true_eq, decide_eq_false_iff_not, Bool.not_eq_true', Bool.not_eq_false', Int.not_lt, Int.not_le, Int.toNat_natCast] at hs6
                            first
                             | (exfalso; clear hK26 K26; clear hK25 K25; clear hK21 K21; clear hK20 K20; clear hK19 K19; clear hK18 K18; clear hK17 K17; clear hK16 K16; clear hK15 K15; clear hK14 K14; clear hK13 K13; clear hK12 K12; clear hK11 K11; clear hK10 K10; clear hK9 K9; clear hK8 K8; clear hK7 K7; clear hK2 K2; clear hK1 K1; clear hK0 K0; first | omega | contradiction)
                             | (
                              refine RL.guard_no rfl rfl rfl ?_
                              refine RL.guard_no rfl rfl rfl ?_
                              refine RL.guard_no rfl rfl rfl ?_
                              refine RL.guard_no rfl rfl rfl ?_
                              refine RL.guard_no rfl rfl rfl ?_
                              refine RL.guard_no rfl rfl rfl ?_
                              refine RL.st ?_
                              refine NV.p T ?_
                              refine RL.st ?_
                              refine NV.p T ?_
                              refine RL.nil _ _ _ _ ?_
                              refine hK14 _ _ _ ?_
                              refine SW.region _ _ _ _ ?_
                              refine RL.st ?_
                              first | refine NV.arith rfl rfl rfl rfl (by omega) (by omega) ?_ | refine NV.p T ?_
                              refine RL.st ?_
                              refine NV.p T ?_
                              refine RL.nil _ _ _ _ ?_
                              first
                                | exact ⟨n - (k + 1), (by omega), k + 1, false, decide (((out.length : Int) + 1).tmod ev = 0), _, _, _, out ++ [es.getD k 0], (by rfl), ⟨by omega, ⟨by simp; omega, hI.see (by omega) e1 hzk rfl⟩⟩, (.cons rfl (.cons rfl (.cons rfl (.consB rfl (by first | rfl | assumption | exact decide_eq_true (by assumption) | exact decide_eq_false (by assumption) | (clear hK26 K26; clear hK25 K25; clear hK21 K21; clear hK20 K20; clear hK19 K19; clear hK18 K18; clear hK17 K17; clear hK16 K16; clear hK15 K15; clear hK14 K14; clear hK13 K13; clear hK12 K12; clear hK11 K11; clear hK10 K10; clear hK9 K9; clear hK8 K8; clear hK7 K7; clear hK2 K2; clear hK1 K1; clear hK0 K0;  simp_all)) (.nil (by repeat first | exact Mx.refl | exact Mx.mix | refine Mx.put rfl ?_ | refine Mx.upd rfl ?_ | refine Mx.updl rfl ?_ | refine Mx.fin rfl ?_ | refine Mx.inner rfl ?_ | refine Mx.none ?_)))))), rfl, (by simp)⟩
                                | exact ⟨n - (k + 1), (by omega), k + 1, true, false, _, _, _, out, (by rfl), ⟨by omega, ⟨by assumption, hI.stuff (by omega) e1 hzk (by simp only [lastAt]; split <;> first | assumption | omega)⟩⟩, (.cons rfl (.cons rfl (.cons rfl (.consB rfl (by first | rfl | assumption | exact decide_eq_true (by assumption) | exact decide_eq_false (by assumption) | (clear hK26 K26; clear hK25 K25; clear hK21 K21; clear hK20 K20; clear hK19 K19; clear hK18 K18; clear hK17 K17; clear hK16 K16; clear hK15 K15; clear hK14 K14; clear hK13 K13; clear hK12 K12; clear hK11 K11; clear hK10 K10; clear hK9 K9; clear hK8 K8; clear hK7 K7; clear hK2 K2; clear hK1 K1; clear hK0 K0;  simp_all)) (.nil (by repeat first | exact Mx.refl | exact Mx.mix | refine Mx.put rfl ?_ | refine Mx.upd rfl ?_ | refine Mx.updl rfl ?_ | refine Mx.fin rfl ?_ | refine Mx.inner rfl ?_ | refine Mx.none ?_)))))), rfl, rfl⟩
                              )
                           )
                        ·try simp only [decide_eq_true_eq, decide_eq_false_iff_not, Bool.not_eq_true', Bool.not_eq_false', Int.not_lt, Int.not_le, Int.toNat_natCast] at hc5
                         first
                          | (exfalso; clear hK26 K26; clear hK25 K25; clear hK21 K21; clear hK20 K20; clear hK19 K19; clear hK18 K18; clear hK17 K17; clear hK16 K16; clear hK15 K15; clear hK14 K14; clear hK13 K13; clear hK12 K12; clear hK11 K11; clear hK10 K10; clear hK9 K9; clear hK8 K8; clear hK7 K7; clear hK2 K2; clear hK1 K1; clear hK0 K0; first | omega | contradiction)
                          | (
                           refine SW.skip ?_
                           refine hK25 _ _ _ ?_
                           refine SW.region _ _ _ _ ?_
                           refine RL.st ?_
                           refine NV.p T ?_
                           refine RL.st ?_
                           refine NV.p T ?_
                           refine RL.st ?_
                           refine NV.p T ?_
                           refine RL.split 63 rfl (fun hs7 => ?_) (fun hs7 => ?_)
                           ·try simp only [decide_eq_true_eq, decide_eq_false_iff_not, Bool.not_eq_true', Bool.not_eq_false', Int.not_lt, Int.not_le, Int.toNat_natCast] at hs7
                            first
                             | (exfalso; clear hK26 K26; clear hK25 K25; clear hK21 K21; clear hK20 K20; clear hK19 K19; clear hK18 K18; clear hK17 K17; clear hK16 K16; clear hK15 K15; clear hK14 K14; clear hK13 K13; clear hK12 K12; clear hK11 K11; clear hK10 K10; clear hK9 K9; clear hK8 K8; clear hK7 K7; clear hK2 K2; clear hK1 K1; clear hK0 K0; first | omega | contradiction)
                             | (
                              refine RL.st ?_
                              refine NV.p T ?_
                              refine RL.st ?_
                              refine NV.p T ?_
                              refine RL.st ?_
                              refine NV.p T ?_
                              refine RL.st ?_
                              refine NV.lv1 T ?_
                              refine RL.st ?_
                              refine NV.rem rfl rfl rfl (by omega) rfl ?_
                              refine RL.st ?_
                              refine NV.p T ?_
                              refine RL.st ?_
                              refine NV.p T ?_
                              refine RL.st ?_
                              refine NV.p T ?_
                              refine RL.nil _ _ _ _ ?_
                              refine hK14 _ _ _ ?_
                              refine SW.region _ _ _ _ ?_
                              refine RL.st ?_
                              first | refine NV.arith rfl rfl rfl rfl (by omega) (by omega) ?_ | refine NV.p T ?_
                              refine RL.st ?_
                              refine NV.p T ?_
                              refine RL.nil _ _ _ _ ?_
                              first
                                | exact ⟨n - (k + 1), (by omega), k + 1, false, decide (((out.length : Int) + 1).tmod ev = 0), _, _, _, out ++ [es.getD k 0], (by rfl), ⟨by omega, ⟨by simp; omega, hI.see (by omega) e1 hzk rfl⟩⟩, (.cons rfl (.cons rfl (.cons rfl (.consB rfl (by first | rfl | assumption | exact decide_eq_true (by assumption) | exact decide_eq_false (by assumption) | (clear hK26 K26; clear hK25 K25; clear hK21 K21; clear hK20 K20; clear hK19 K19; clear hK18 K18; clear hK17 K17; clear hK16 K16; clear hK15 K15; clear hK14 K14; clear hK13 K13; clear hK12 K12; clear hK11 K11; clear hK10 K10; clear hK9 K9; clear hK8 K8; clear hK7 K7; clear hK2 K2; clear hK1 K1; clear hK0 K0;  simp_all)) (.nil (by repeat first | exact Mx.refl | exact Mx.mix | refine Mx.put rfl ?_ | refine Mx.upd rfl ?_ | refine Mx.updl rfl ?_ | refine Mx.fin rfl ?_ | refine Mx.inner rfl ?_ | refine Mx.none ?_)))))), rfl, (by simp)⟩
                                | exact ⟨n - (k + 1), (by omega), k + 1, true, false, _, _, _, out, (by rfl), ⟨by omega, ⟨by assumption, hI.stuff (by omega) e1 hzk (by simp only [lastAt]; split <;> first | assumption | omega)⟩⟩, (.cons rfl (.cons rfl (.cons rfl (.consB rfl (by first | rfl | assumption | exact decide_eq_true (by assumption) | exact decide_eq_false (by assumption) | (clear hK26 K26; clear hK25 K25; clear hK21 K21; clear hK20 K20; clear hK19 K19; clear hK18 K18; clear hK17 K17; clear hK16 K16; clear hK15 K15; clear hK14 K14; clear hK13 K13; clear hK12 K12; clear hK11 K11; clear hK10 K10; clear hK9 K9; clear hK8 K8; clear hK7 K7; clear hK2 K2; clear hK1 K1; clear hK0 K0;  simp_all)) (.nil (by repeat first | exact Mx.refl | exact Mx.mix | refine Mx.put rfl ?_ | refine Mx.upd rfl ?_ | refine Mx.updl rfl ?_ | refine Mx.fin rfl ?_ | refine Mx.inner rfl ?_ | refine Mx.none ?_)))))), rfl, rfl⟩
                              )
                           ·try simp only [decide_eq_true_eq, decide_eq_false_iff_not, Bool.not_eq_true', Bool.not_eq_false', Int.not_lt, Int.not_le, Int.toNat_natCast] at hs7
                            first
                             | (exfalso; clear hK26 K26; clear hK25 K25; clear hK21 K21; clear hK20 K20; clear hK19 K19; clear hK18 K18; clear hK17 K17; clear hK16 K16; clear hK15 K15; clear hK14 K14; clear hK13 K13; clear hK12 K12; clear hK11 K11; clear hK10 K10; clear hK9 K9; clear hK8 K8; clear hK7 K7; clear hK2 K2; clear hK1 K1; clear hK0 K0; first | omega | contradiction)
                             | (
                              refine RL.guard_no rfl rfl rfl ?_
                              refine RL.guard_no rfl rfl rfl ?_
                              refine RL.guard_no rfl rfl rfl ?_
                              refine RL.guard_no rfl rfl rfl ?_
                              refine RL.guard_no rfl rfl rfl ?_
                              refine RL.guard_no rfl rfl rfl ?_
                              refine RL.st ?_
                              refine NV.p T ?_
                              refine RL.st ?_
                              refine NV.p T ?_
                              refine RL.nil _ _ _ _ ?_
                              refine hK14 _ _ _ ?_
                              refine SW.region _ _ _ _ ?_
                              refine RL.st ?_
                              first | refine NV.arith rfl rfl rfl rfl (by omega) (by omega) ?_ | refine NV.p T ?_
                              refine RL.st ?_
                              refine NV.p T ?_
                              refine RL.nil _ _ _ _ ?_
                              first
                                | exact ⟨n - (k + 1), (by omega), k + 1, false, decide (((out.length : Int) + 1).tmod ev = 0), _, _, _, out ++ [es.getD k 0], (by rfl), ⟨by omega, ⟨by simp; omega, hI.see (by omega) e1 hzk rfl⟩⟩, (.cons rfl (.cons rfl (.cons rfl (.consB rfl (by first | rfl | assumption | exact decide_eq_true (by assumption) | exact decide_eq_false (by assumption) | (clear hK26 K26; clear hK25 K25; clear hK21 K21; clear hK20 K20; clear hK19 K19; clear hK18 K18; clear hK17 K17; clear hK16 K16; clear hK15 K15; clear hK14 K14; clear hK13 K13; clear hK12 K12; clear hK11 K11; clear hK10 K10; clear hK9 K9; clear hK8 K8; clear hK7 K7; clear hK2 K2; clear hK1 K1; clear hK0 K0;  simp_all)) (.nil (by repeat first | exact Mx.refl | exact Mx.mix | refine Mx.put rfl ?_ | refine Mx.upd rfl ?_ | refine Mx.updl rfl ?_ | refine Mx.fin rfl ?_ | refine Mx.inner rfl ?_ | refine Mx.none ?_)))))), rfl, (by simp)⟩
                                | exact ⟨n - (k + 1), (by omega), k + 1, true, false, _, _, _, out, (by rfl), ⟨by omega, ⟨by assumption, hI.stuff (by omega) e1 hzk (by simp only [lastAt]; split <;> first | assumption | omega)⟩⟩, (.cons rfl (.cons rfl (.cons rfl (.consB rfl (by first | rfl | assumption | exact decide_eq_true (by assumption) | exact decide_eq_false (by assumption) | (clear hK26 K26; clear hK25 K25; clear hK21 K21; clear hK20 K20; clear hK19 K19; clear hK18 K18; clear hK17 K17; clear hK16 K16; clear hK15 K15; clear hK14 K14; clear hK13 K13; clear hK12 K12; clear hK11 K11; clear hK10 K10; clear hK9 K9; clear hK8 K8; clear hK7 K7; clear hK2 K2; clear hK1 K1; clear hK0 K0;  simp_all)) (.nil (by repeat first | exact Mx.refl | exact Mx.mix | refine Mx.put rfl ?_ | refine Mx.upd rfl ?_ | refine Mx.updl rfl ?_ | refine Mx.fin rfl ?_ | refine Mx.inner rfl ?_ | refine Mx.none ?_)))))), rfl, rfl⟩
                              )
                           )
                        )
                     )
                  ·try simp only [decide_eq_true_eq, decide_eq_false_iff_not, Bool.not_eq_true', Bool.not_eq_false', Int.not_lt, Int.not_le, Int.toNat_natCast] at hc2
                   first
                    | (exfalso; clear hK18 K18; clear hK17 K17; clear hK16 K16; clear hK15 K15; clear hK14 K14; clear hK13 K13; clear hK12 K12; clear hK11 K11; clear hK10 K10; clear hK9 K9; clear hK8 K8; clear hK7 K7; clear hK2 K2; clear hK1 K1; clear hK0 K0; first | omega | contradiction)
                    | (
                     refine SW.skip ?_
                     refine hK17 _ _ _ ?_
                     refine SW.seq_k ?_
                     intro K27 hK27
                     refine SW.region _ _ _ _ ?_
                     refine RL.st ?_
                     refine NV.p T ?_
                     refine RL.st ?_
                     refine NV.p T ?_
                     refine RL.nil _ _ _ _ ?_
                     refine hK27 _ _ _ ?_
                     refine SW.seq_k ?_
                     intro K28 hK28
                     refine SW.seq_k ?_
                     intro K29 hK29
                     refine SW.region _ _ _ _ ?_
                     refine RL.st ?_
                     refine NV.p T ?_
                     refine RL.st ?_
                     refine NV.p T ?_
                     refine RL.split 50 rfl (fun hs8 => ?_) (fun hs8 => ?_)
                     ·try simp only [decide_eq_true_eq, decide_eq_false_iff_not, Bool.not_eq_true', Bool.not_eq_false', Int.not_lt, Int.not_le, Int.toNat_natCast] at hs8
                      first
                       | (exfalso; clear hK29 K29; clear hK28 K28; clear hK27 K27; clear hK18 K18; clear hK17 K17; clear hK16 K16; clear hK15 K15; clear hK14 K14; clear hK13 K13; clear hK12 K12; clear hK11 K11; clear hK10 K10; clear hK9 K9; clear hK8 K8; clear hK7 K7; clear hK2 K2; clear hK1 K1; clear hK0 K0; first | omega | contradiction)
                       | (
                        refine RL.st ?_
                        refine NV.p T ?_
                        refine RL.st ?_
                        refine NV.p T ?_
                        refine RL.st ?_
                        refine NV.p T ?_
                        refine RL.st ?_
                        refine NV.p T ?_
                        refine RL.nil _ _ _ _ ?_
                        refine hK29 _ _ _ ?_
                        refine SW.cond rfl (fun hc6 => ?_) (fun hc6 => ?_)
                        ·try simp only [decide_eq_true_eq, decide_eq_false_iff_not, Bool.not_eq_true', Bool.not_eq_false', Int.not_lt, Int.not_le, Int.toNat_natCast] at hc6
                         first
                          | (exfalso; clear hK29 K29; clear hK28 K28; clear hK27 K27; clear hK18 K18; clear hK17 K17; clear hK16 K16; clear hK15 K15; clear hK14 K14; clear hK13 K13; clear hK12 K12; clear hK11 K11; clear hK10 K10; clear hK9 K9; clear hK8 K8; clear hK7 K7; clear hK2 K2; clear hK1 K1; clear hK0 K0; first | omega | contradiction)
                          | (
                           refine SW.seq_k ?_
                           intro K30 hK30
                           refine SW.region _ _ _ _ ?_
                           refine RL.st ?_
                           refine NV.p T ?_
                           refine RL.st ?_
                           refine NV.p T ?_
                           refine RL.nil _ _ _ _ ?_
                           refine hK30 _ _ _ ?_
                           refine SW.sat (fun hs => ?_)
                           refine SW.ret ?_
                           refine retQ.ret (RVs.tmp (by conv => lhs; whnf) (RVs.tmp (by conv => lhs; whnf) RVs.nil)) (fun w hw => hw) ?_
                           clear hK30 K30 hK29 K29 hK28 K28 hK27 K27 hK18 K18 hK17 K17 hK16 K16 hK15 K15 hK14 K14 hK13 K13 hK12 K12 hK11 K11 hK10 K10 hK9 K9 hK8 K8 hK7 K7 hK2 K2 hK1 K1 hK0 K0
                           first
                             | (rw [getV_none hf (hI.gi.bad (by omega) rfl (by simp only [lastAt]; split <;> first | assumption | omega))]; exact ⟨_, rfl, none, 0, 0, rfl, rfl, Rd.nilS, [_, _], rfl⟩)
                             | (rw [getV_more hf ((show d = true by assumption) ▸ hI.gi.done (by omega))]; exact ⟨_, rfl, none, 0, 0, rfl, rfl, Rd.nilS, [_, _], rfl⟩)
                             | (rw [getV_ok hf ((show d = false by assumption) ▸ hI.gi.done (by omega))]; exact ⟨_, rfl, Res.row hs (At.head _ _) (G := [_, _]) rfl⟩)
                           )
                        ·try simp only [decide_eq_true_eq, decide_eq_false_iff_not, Bool.not_eq_true', Bool.not_eq_false', Int.not_lt, Int.not_le, Int.toNat_natCast] at hc6
                         first
                          | (exfalso; clear hK29 K29; clear hK28 K28; clear hK27 K27; clear hK18 K18; clear hK17 K17; clear hK16 K16; clear hK15 K15; clear hK14 K14; clear hK13 K13; clear hK12 K12; clear hK11 K11; clear hK10 K10; clear hK9 K9; clear hK8 K8; clear hK7 K7; clear hK2 K2; clear hK1 K1; clear hK0 K0; first | omega | contradiction)
                          | (
                           refine SW.skip ?_
                           refine hK28 _ _ _ ?_
                           refine SW.seq_k ?_
                           intro K31 hK31
                           refine SW.seq_k ?_
                           intro K32 hK32
                           refine SW.region _ _ _ _ ?_
                           refine RL.st ?_
                           refine NV.p T ?_
                           refine RL.st ?_
                           refine NV.p T ?_
                           refine RL.nil _ _ _ _ ?_
                           refine hK32 _ _ _ ?_
                           refine SW.cond rfl (fun hc7 => ?_) (fun hc7 => ?_)
                           ·try simp only [decide_eq_true_eq, decide_eq_false_iff_not, Bool.not_eq_true', Bool.not_eq_false', Int.not_lt, Int.not_le, Int.toNat_natCast] at hc7
                            first
                             | (exfalso; clear hK32 K32; clear hK31 K31; clear hK29 K29; clear hK28 K28; clear hK27 K27; clear hK18 K18; clear hK17 K17; clear hK16 K16; clear hK15 K15; clear hK14 K14; clear hK13 K13; clear hK12 K12; clear hK11 K11; clear hK10 K10; clear hK9 K9; clear hK8 K8; clear hK7 K7; clear hK2 K2; clear hK1 K1; clear hK0 K0; first | omega | contradiction)
                             | (
                              refine SW.region _ _ _ _ ?_
                              refine RL.st ?_
                              refine NV.p T ?_
                              refine RL.st ?_
                              refine NV.p T ?_
                              refine RL.st ?_
                              refine NV.build1 T rfl (by conv => lhs; whnf) rfl rfl (by conv => lhs; whnf) (by exact (rfl : _ = some [_])) ?_
                              intro b59_3
                              refine RL.st ?_
                              first
                                | refine NV.append1 T rfl rfl rfl rfl rfl rfl rfl rfl rfl rfl (by repeat first | exact At.head _ _ | assumption | exact At.put (by assumption) _ | apply At.tail | apply At.app) (ones rfl) (by first | omega | (unfold maxLen; omega)) (by first | omega | (show (_ + _) * 1 ≤ 140737488355328; omega)) ?_
                                | refine NV.append T rfl rfl rfl rfl rfl rfl rfl rfl rfl rfl (by repeat first | exact At.head _ _ | assumption | exact At.put (by assumption) _ | apply At.tail | apply At.app) (by assumption) (ones rfl) (by first | omega | (unfold maxLen; omega)) (by first | omega | (show (_ + _) * 1 ≤ 140737488355328; omega)) ?_
                              intro a2_ c2_
                              refine RL.st ?_
                              refine NV.p T ?_
                              refine RL.nil _ _ _ _ ?_
                              refine hK31 _ _ _ ?_
                              refine SW.region _ _ _ _ ?_
                              refine RL.st ?_
                              refine NV.p T ?_
                              refine RL.st ?_
                              refine NV.p T ?_
                              refine RL.st ?_
                              refine NV.p T ?_
                              refine RL.split 63 rfl (fun hs9 => ?_) (fun hs9 => ?_)
                              ·try simp only [decide_eq_true_eq, decide_eq_false_iff_not, Bool.not_eq_true', Bool.not_eq_false', Int.not_lt, Int.not_le, Int.toNat_natCast] at hs9
                               first
                                | (exfalso; clear hK32 K32; clear hK31 K31; clear hK29 K29; clear hK28 K28; clear hK27 K27; clear hK18 K18; clear hK17 K17; clear hK16 K16; clear hK15 K15; clear hK14 K14; clear hK13 K13; clear hK12 K12; clear hK11 K11; clear hK10 K10; clear hK9 K9; clear hK8 K8; clear hK7 K7; clear hK2 K2; clear hK1 K1; clear hK0 K0; first | omega | contradiction)
                                | (
                                 refine RL.st ?_
                                 refine NV.p T ?_
                                 refine RL.st ?_
                                 refine NV.p T ?_
                                 refine RL.st ?_
                                 refine NV.p T ?_
                                 refine RL.st ?_
                                 refine NV.lv1 T ?_
                                 refine RL.st ?_
                                 refine NV.rem rfl rfl rfl (by omega) rfl ?_
                                 refine RL.st ?_
                                 refine NV.p T ?_
                                 refine RL.st ?_
                                 refine NV.p T ?_
                                 refine RL.st ?_
                                 refine NV.p T ?_
                                 refine RL.nil _ _ _ _ ?_
                                 refine hK14 _ _ _ ?_
                                 refine SW.region _ _ _ _ ?_
                                 refine RL.st ?_
                                 first | refine NV.arith rfl rfl rfl rfl (by omega) (by omega) ?_ | refine NV.p T ?_
                                 refine RL.st ?_
                                 refine NV.p T ?_
                                 refine RL.nil _ _ _ _ ?_
                                 first
                                   | exact ⟨n - (k + 1), (by omega), k + 1, false, decide (((out.length : Int) + 1).tmod ev = 0), _, _, _, out ++ [es.getD k 0], (by rfl), ⟨by omega, ⟨by simp; omega, hI.see (by omega) e1 hzk rfl⟩⟩, (.cons rfl (.cons rfl (.cons rfl (.consB rfl (by first | rfl | assumption | exact decide_eq_true (by assumption) | exact decide_eq_false (by assumption) | (clear hK32 K32; clear hK31 K31; clear hK29 K29; clear hK28 K28; clear hK27 K27; clear hK18 K18; clear hK17 K17; clear hK16 K16; clear hK15 K15; clear hK14 K14; clear hK13 K13; clear hK12 K12; clear hK11 K11; clear hK10 K10; clear hK9 K9; clear hK8 K8; clear hK7 K7; clear hK2 K2; clear hK1 K1; clear hK0 K0;  simp_all)) (.nil (by repeat first | exact Mx.refl | exact Mx.mix | refine Mx.put rfl ?_ | refine Mx.upd rfl ?_ | refine Mx.updl rfl ?_ | refine Mx.fin rfl ?_ | refine Mx.inner rfl ?_ | refine Mx.none ?_)))))), rfl, (by simp)⟩
                                   | exact ⟨n - (k + 1), (by omega), k + 1, true, false, _, _, _, out, (by rfl), ⟨by omega, ⟨by assumption, hI.stuff (by omega) e1 hzk (by simp only [lastAt]; split <;> first | assumption | omega)⟩⟩, (.cons rfl (.cons rfl (.cons rfl (.consB rfl (by first | rfl | assumption | exact decide_eq_true (by assumption) | exact decide_eq_false (by assumption) | (clear hK32 K32; clear hK31 K31; clear hK29 K29; clear hK28 K28; clear hK27 K27; clear hK18 K18; clear hK17 K17; clear hK16 K16; clear hK15 K15; clear hK14 K14; clear hK13 K13; clear hK12 K12; clear hK11 K11; clear hK10 K10; clear hK9 K9; clear hK8 K8; clear hK7 K7; clear hK2 K2; clear hK1 K1; clear hK0 K0;  simp_all)) (.nil (by repeat first | exact Mx.refl | exact Mx.mix | refine Mx.put rfl ?_ | refine Mx.upd rfl ?_ | refine Mx.updl rfl ?_ | refine Mx.fin rfl ?_ | refine Mx.inner rfl ?_ | refine Mx.none ?_)))))), rfl, rfl⟩
                                 )
                              ·try simp only [decide_eq_true_eq, decide_eq_false_iff_not, Bool.not_eq_true', Bool.not_eq_false', Int.not_lt, Int.not_le, Int.toNat_natCast] at hs9
                               first
                                | (exfalso; clear hK32 K32; clear hK31 K31; clear hK29 K29; clear hK28 K28; clear hK27 K27; clear hK18 K18; clear hK17 K17; clear hK16 K16; clear hK15 K15; clear hK14 K14; clear hK13 K13; clear hK12 K12; clear hK11 K11; clear hK10 K10; clear hK9 K9; clear hK8 K8; clear hK7 K7; clear hK2 K2; clear hK1 K1; clear hK0 K0; first | omega | contradiction)
                                | (
                                 refine RL.guard_no rfl rfl rfl ?_
                                 refine RL.guard_no rfl rfl rfl ?_
                                 refine RL.guard_no rfl rfl rfl ?_
                                 refine RL.guard_no rfl rfl rfl ?_
                                 refine RL.guard_no rfl rfl rfl ?_
                                 refine RL.guard_no rfl rfl rfl ?_
                                 refine RL.st ?_
                                 refine NV.p T ?_
                                 refine RL.st ?_
                                 refine NV.p T ?_
                                 refine RL.nil _ _ _ _ ?_
                                 refine hK14 _ _ _ ?_
                                 refine SW.region _ _ _ _ ?_
                                 refine RL.st ?_
                                 first | refine NV.arith rfl rfl rfl rfl (by omega) (by omega) ?_ | refine NV.p T ?_
                                 refine RL.st ?_
                                 refine NV.p T ?_
                                 refine RL.nil _ _ _ _ ?_
                                 first
                                   | exact ⟨n - (k + 1), (by omega), k + 1, false, decide (((out.length : Int) + 1).tmod ev = 0), _, _, _, out ++ [es.getD k 0], (by rfl), ⟨by omega, ⟨by simp; omega, hI.see (by omega) e1 hzk rfl⟩⟩, (.cons rfl (.cons rfl (.cons rfl (.consB rfl (by first | rfl | assumption | exact decide_eq_true (by assumption) | exact decide_eq_false (by assumption) | (clear hK32 K32; clear hK31 K31; clear hK29 K29; clear hK28 K28; clear hK27 K27; clear hK18 K18; clear hK17 K17; clear hK16 K16; clear hK15 K15; clear hK14 K14; clear hK13 K13; clear hK12 K12; clear hK11 K11; clear hK10 K10; clear hK9 K9; clear hK8 K8; clear hK7 K7; clear hK2 K2; clear hK1 K1; clear hK0 K0;  simp_all)) (.nil (by repeat first | exact Mx.refl | exact Mx.mix | refine Mx.put rfl ?_ | refine Mx.upd rfl ?_ | refine Mx.updl rfl ?_ | refine Mx.fin rfl ?_ | refine Mx.inner rfl ?_ | refine Mx.none ?_)))))), rfl, (by simp)⟩
                                   | exact ⟨n - (k + 1), (by omega), k + 1, true, false, _, _, _, out, (by rfl), ⟨by omega, ⟨by assumption, hI.stuff (by omega) e1 hzk (by simp only [lastAt]; split <;> first | assumption | omega)⟩⟩, (.cons rfl (.cons rfl (.cons rfl (.consB rfl (by first | rfl | assumption | exact decide_eq_true (by assumption) | exact decide_eq_false (by assumption) | (clear hK32 K32; clear hK31 K31; clear hK29 K29; clear hK28 K28; clear hK27 K27; clear hK18 K18; clear hK17 K17; clear hK16 K16; clear hK15 K15; clear hK14 K14; clear hK13 K13; clear hK12 K12; clear hK11 K11; clear hK10 K10; clear hK9 K9; clear hK8 K8; clear hK7 K7; clear hK2 K2; clear hK1 K1; clear hK0 K0;  simp_all)) (.nil (by repeat first | exact Mx.refl | exact Mx.mix | refine Mx.put rfl ?_ | refine Mx.upd rfl ?_ | refine Mx.updl rfl ?_ | refine Mx.fin rfl ?_ | refine Mx.inner rfl ?_ | refine Mx.none ?_)))))), rfl, rfl⟩
                                 )
                              )
                           ·try simp only [decide_eq_true_eq, decide_eq_false_iff_not, Bool.not_eq_true', Bool.not_eq_false', Int.not_lt, Int.not_le, Int.toNat_natCast] at hc7
                            first
                             | (exfalso; clear hK32 K32; clear hK31 K31; clear hK29 K29; clear hK28 K28; clear hK27 K27; clear hK18 K18; clear hK17 K17; clear hK16 K16; clear hK15 K15; clear hK14 K14; clear hK13 K13; clear hK12 K12; clear hK11 K11; clear hK10 K10; clear hK9 K9; clear hK8 K8; clear hK7 K7; clear hK2 K2; clear hK1 K1; clear hK0 K0; first | omega | contradiction)
                             | (
                              refine SW.skip ?_
                              refine hK31 _ _ _ ?_
                              refine SW.region _ _ _ _ ?_
                              refine RL.st ?_
                              refine NV.p T ?_
                              refine RL.st ?_
                              refine NV.p T ?_
                              refine RL.st ?_
                              refine NV.p T ?_
                              refine RL.split 63 rfl (fun hs10 => ?_) (fun hs10 => ?_)
                              ·try simp only [decide_eq_true_eq, decide_eq_false_iff_not, Bool.not_eq_true', Bool.not_eq_false', Int.not_lt, Int.not_le, Int.toNat_natCast] at hs10
                               first
                                | (exfalso; clear hK32 K32; clear hK31 K31; clear hK29 K29; clear hK28 K28; clear hK27 K27; clear hK18 K18; clear hK17 K17; clear hK16 K16; clear hK15 K15; clear hK14 K14; clear hK13 K13; clear hK12 K12; clear hK11 K11; clear hK10 K10; clear hK9 K9; clear hK8 K8; clear hK7 K7; clear hK2 K2; clear hK1 K1; clear hK0 K0; first | omega | contradiction)
                                | (
                                 refine RL.st ?_
                                 refine NV.p T ?_
                                 refine RL.st ?_
                                 refine NV.p T ?_
                                 refine RL.st ?_
                                 refine NV.p T ?_
                                 refine RL.st ?_
                                 refine NV.lv1 T ?_
                                 refine RL.st ?_
                                 refine NV.rem rfl rfl rfl (by omega) rfl ?_
                                 refine RL.st ?_
                                 refine NV.p T ?_
                                 refine RL.st ?_
                                 refine NV.p T ?_
                                 refine RL.st ?_
                                 refine NV.p T ?_
                                 refine RL.nil _ _ _ _ ?_
                                 refine hK14 _ _ _ ?_
                                 refine SW.region _ _ _ _ ?_
                                 refine RL.st ?_
                                 first | refine NV.arith rfl rfl rfl rfl (by omega) (by omega) ?_ | refine NV.p T ?_
                                 refine RL.st ?_
                                 refine NV.p T ?_
                                 refine RL.nil _ _ _ _ ?_
                                 first
                                   | exact ⟨n - (k + 1), (by omega), k + 1, false, decide (((out.length : Int) + 1).tmod ev = 0), _, _, _, out ++ [es.getD k 0], (by rfl), ⟨by omega, ⟨by simp; omega, hI.see (by omega) e1 hzk rfl⟩⟩, (.cons rfl (.cons rfl (.cons rfl (.consB rfl (by first | rfl | assumption | exact decide_eq_true (by assumption) | exact decide_eq_false (by assumption) | (clear hK32 K32; clear hK31 K31; clear hK29 K29; clear hK28 K28; clear hK27 K27; clear hK18 K18; clear hK17 K17; clear hK16 K16; clear hK15 K15; clear hK14 K14; clear hK13 K13; clear hK12 K12; clear hK11 K11; clear hK10 K10; clear hK9 K9; clear hK8 K8; clear hK7 K7; clear hK2 K2; clear hK1 K1; clear hK0 K0;  simp_all)) (.nil (by repeat first | exact Mx.refl | exact Mx.mix | refine Mx.put rfl ?_ | refine Mx.upd rfl ?_ | refine Mx.updl rfl ?_ | refine Mx.fin rfl ?_ | refine Mx.inner rfl ?_ | refine Mx.none ?_)))))), rfl, (by simp)⟩
                                   | exact ⟨n - (k + 1), (by omega), k + 1, true, false, _, _, _, out, (by rfl), ⟨by omega, ⟨by assumption, hI.stuff (by omega) e1 hzk (by simp only [lastAt]; split <;> first | assumption | omega)⟩⟩, (.cons rfl (.cons rfl (.cons rfl (.consB rfl (by first | rfl | assumption | exact decide_eq_true (by assumption) | exact decide_eq_false (by assumption) | (clear hK32 K32; clear hK31 K31; clear hK29 K29; clear hK28 K28; clear hK27 K27; clear hK18 K18; clear hK17 K17; clear hK16 K16; clear hK15 K15; clear hK14 K14; clear hK13 K13; clear hK12 K12; clear hK11 K11; clear hK10 K10; clear hK9 K9; clear hK8 K8; clear hK7 K7; clear hK2 K2; clear hK1 K1; clear hK0 K0;  simp_all)) (.nil (by repeat first | exact Mx.refl | exact Mx.mix | refine Mx.put rfl ?_ | refine Mx.upd rfl ?_ | refine Mx.updl rfl ?_ | refine Mx.fin rfl ?_ | refine Mx.inner rfl ?_ | refine Mx.none ?_)))))), rfl, rfl⟩
                                 )
                              ·try simp only [decide_eq_true_eq, decide_eq_false_iff_not, Bool.not_eq_true', Bool.not_eq_false', Int.not_lt, Int.not_le, Int.toNat_natCast] at hs10
                               first
                                | (exfalso; clear hK32 K32; clear hK31 K31; clear hK29 K29; clear hK28 K28; clear hK27 K27; clear hK18 K18; clear hK17 K17; clear hK16 K16; clear hK15 K15; clear hK14 K14; clear hK13 K13; clear hK12 K12; clear hK11 K11; clear hK10 K10; clear hK9 K9; clear hK8 K8; clear hK7 K7; clear hK2 K2; clear hK1 K1; clear hK0 K0; first | omega | contradiction)
                                | (
                                 refine RL.guard_no rfl rfl rfl ?_
                                 refine RL.guard_no rfl rfl rfl ?_
                                 refine RL.guard_no rfl rfl rfl ?_
                                 refine RL.guard_no rfl rfl rfl ?_
                                 refine RL.guard_no rfl rfl rfl ?_
                                 refine RL.guard_no rfl rfl rfl ?_
                                 refine RL.st ?_
                                 refine NV.p T ?_
                                 refine RL.st ?_
                                 refine NV.p T ?_
                                 refine RL.nil _ _ _ _ ?_
                                 refine hK14 _ _ _ ?_
                                 refine SW.region _ _ _ _ ?_
                                 refine RL.st ?_
                                 first | refine NV.arith rfl rfl rfl rfl (by omega) (by omega) ?_ | refine NV.p T ?_
                                 refine RL.st ?_
                                 refine NV.p T ?_
                                 refine RL.nil _ _ _ _ ?_
                                 first
                                   | exact ⟨n - (k + 1), (by omega), k + 1, false, decide (((out.length : Int) + 1).tmod ev = 0), _, _, _, out ++ [es.getD k 0], (by rfl), ⟨by omega, ⟨by simp; omega, hI.see (by omega) e1 hzk rfl⟩⟩, (.cons rfl (.cons rfl (.cons rfl (.consB rfl (by first | rfl | assumption | exact decide_eq_true (by assumption) | exact decide_eq_false (by assumption) | (clear hK32 K32; clear hK31 K31; clear hK29 K29; clear hK28 K28; clear hK27 K27; clear hK18 K18; clear hK17 K17; clear hK16 K16; clear hK15 K15; clear hK14 K14; clear hK13 K13; clear hK12 K12; clear hK11 K11; clear hK10 K10; clear hK9 K9; clear hK8 K8; clear hK7 K7; clear hK2 K2; clear hK1 K1; clear hK0 K0;  simp_all)) (.nil (by repeat first | exact Mx.refl | exact Mx.mix | refine Mx.put rfl ?_ | refine Mx.upd rfl ?_ | refine Mx.updl rfl ?_ | refine Mx.fin rfl ?_ | refine Mx.inner rfl ?_ | refine Mx.none ?_)))))), rfl, (by simp)⟩
                                   | exact ⟨n - (k + 1), (by omega), k + 1, true, false, _, _, _, out, (by rfl), ⟨by omega, ⟨by assumption, hI.stuff (by omega) e1 hzk (by simp only [lastAt]; split <;> first | assumption | omega)⟩⟩, (.cons rfl (.cons rfl (.cons rfl (.consB rfl (by first | rfl | assumption | exact decide_eq_true (by assumption) | exact decide_eq_false (by assumption) | (clear hK32 K32; clear hK31 K31; clear hK29 K29; clear hK28 K28; clear hK27 K27; clear hK18 K18; clear hK17 K17; clear hK16 K16; clear hK15 K15; clear hK14 K14; clear hK13 K13; clear hK12 K12; clear hK11 K11; clear hK10 K10; clear hK9 K9; clear hK8 K8; clear hK7 K7; clear hK2 K2; clear hK1 K1; clear hK0 K0;  simp_all)) (.nil (by repeat first | exact Mx.refl | exact Mx.mix | refine Mx.put rfl ?_ | refine Mx.upd rfl ?_ | refine Mx.updl rfl ?_ | refine Mx.fin rfl ?_ | refine Mx.inner rfl ?_ | refine Mx.none ?_)))))), rfl, rfl⟩
                                 )
                              )
                           )
                        )
                     ·try simp only [decide_eq_true_eq, decide_eq_false_iff_not, Bool.not_eq_true', Bool.not_eq_false', Int.not_lt, Int.not_le, Int.toNat_natCast] at hs8
                      first
                       | (exfalso; clear hK29 K29; clear hK28 K28; clear hK27 K27; clear hK18 K18; clear hK17 K17; clear hK16 K16; clear hK15 K15; clear hK14 K14; clear hK13 K13; clear hK12 K12; clear hK11 K11; clear hK10 K10; clear hK9 K9; clear hK8 K8; clear hK7 K7; clear hK2 K2; clear hK1 K1; clear hK0 K0; first | omega | contradiction)
                       | (
                        refine RL.guard_no rfl rfl rfl ?_
                        refine RL.guard_no rfl rfl rfl ?_
                        refine RL.guard_no rfl rfl rfl ?_
                        refine RL.st ?_
                        refine NV.p T ?_
                        refine RL.nil _ _ _ _ ?_
                        refine hK29 _ _ _ ?_
                        refine SW.cond_f rfl ?_
                        refine SW.skip ?_
                        refine hK28 _ _ _ ?_
                        refine SW.seq_k ?_
                        intro K33 hK33
                        refine SW.seq_k ?_
                        intro K34 hK34
                        refine SW.region _ _ _ _ ?_
                        refine RL.st ?_
                        refine NV.p T ?_
                        refine RL.st ?_
                        refine NV.p T ?_
                        refine RL.nil _ _ _ _ ?_
                        refine hK34 _ _ _ ?_
                        refine SW.cond rfl (fun hc8 => ?_) (fun hc8 => ?_)
                        ·try simp only [decide_eq_true_eq, decide_eq_false_iff_not, Bool.not_eq_true', Bool.not_eq_false', Int.not_lt, Int.not_le, Int.toNat_natCast] at hc8
                         first
                          | (exfalso; clear hK34 K34; clear hK33 K33; clear hK29 K29; clear hK28 K28; clear hK27 K27; clear hK18 K18; clear hK17 K17; clear hK16 K16; clear hK15 K15; clear hK14 K14; clear hK13 K13; clear hK12 K12; clear hK11 K11; clear hK10 K10; clear hK9 K9; clear hK8 K8; clear hK7 K7; clear hK2 K2; clear hK1 K1; clear hK0 K0; first | omega | contradiction)
                          | (
                           refine SW.region _ _ _ _ ?_
                           refine RL.st ?_
                           refine NV.p T ?_
                           refine RL.st ?_
                           refine NV.p T ?_
                           refine RL.st ?_
                           refine NV.build1 T rfl (by conv => lhs; whnf) rfl rfl (by conv => lhs; whnf) (by exact (rfl : _ = some [_])) ?_
                           intro b59_4
                           refine RL.st ?_
                           first
                             | refine NV.append1 T rfl rfl rfl rfl rfl rfl rfl rfl rfl rfl (by repeat first | exact At.head _ _ | assumption | exact At.put (by assumption) _ | apply At.tail | apply At.app) (ones rfl) (by first | omega | (unfold maxLen; omega)) (by first | omega | (show (_ + _) * 1 ≤ 140737488355328; omega)) ?_
                             | refine NV.append T rfl rfl rfl rfl rfl rfl rfl rfl rfl rfl (by repeat first | exact At.head _ _ | assumption | exact At.put (by assumption) _ | apply At.tail | apply At.app) (by assumption) (ones rfl) (by first | omega | (unfold maxLen; omega)) (by first | omega | (show (_ + _) * 1 ≤ 140737488355328; omega)) ?_
                           intro a3_ c3_
                           refine RL.st ?_
                           refine NV.p T ?_
                           refine RL.nil _ _ _ _ ?_
                           refine hK33 _ _ _ ?_
                           refine SW.region _ _ _ _ ?_
                           refine RL.st ?_
                           refine NV.p T ?_
                           refine RL.st ?_
                           refine NV.p T ?_
                           refine RL.st ?_
                           refine NV.p T ?_
                           refine RL.split 63 rfl (fun hs11 => ?_) (fun hs11 => ?_)
                           ·try simp only [decide_eq_true_eq, decide_eq_false_iff_not, Bool.not_eq_true', Bool.not_eq_false', Int.not_lt, Int.not_le, Int.toNat_natCast] at hs11
                            first
                             | (exfalso; clear hK34 K34; clear hK33 K33; clear hK29 K29; clear hK28 K28; clear hK27 K27; clear hK18 K18; clear hK17 K17; clear hK16 K16; clear hK15 K15; clear hK14 K14; clear hK13 K13; clear hK12 K12; clear hK11 K11; clear hK10 K10; clear hK9 K9; clear hK8 K8; clear hK7 K7; clear hK2 K2; clear hK1 K1; clear hK0 K0; first | omega | contradiction)
                             | (
                              refine RL.st ?_
                              refine NV.p T ?_
                              refine RL.st ?_
                              refine NV.p T ?_
                              refine RL.st ?_
                              refine NV.p T ?_
                              refine RL.st ?_
                              refine NV.lv1 T ?_
                              refine RL.st ?_
                              refine NV.rem rfl rfl rfl (by omega) rfl ?_
                              refine RL.st ?_
                              refine NV.p T ?_
                              refine RL.st ?_
                              refine NV.p T ?_
                              refine RL.st ?_
                              refine NV.p T ?_
                              refine RL.nil _ _ _ _ ?_
                              refine hK14 _ _ _ ?_
                              refine SW.region _ _ _ _ ?_
                              refine RL.st ?_
                              first | refine NV.arith rfl rfl rfl rfl (by omega) (by omega) ?_ | refine NV.p T ?_
                              refine RL.st ?_
                              refine NV.p T ?_
                              refine RL.nil _ _ _ _ ?_
                              first
                                | exact ⟨n - (k + 1), (by omega), k + 1, false, decide (((out.length : Int) + 1).tmod ev = 0), _, _, _, out ++ [es.getD k 0], (by rfl), ⟨by omega, ⟨by simp; omega, hI.see (by omega) e1 hzk rfl⟩⟩, (.cons rfl (.cons rfl (.cons rfl (.consB rfl (by first | rfl | assumption | exact decide_eq_true (by assumption) | exact decide_eq_false (by assumption) | (clear hK34 K34; clear hK33 K33; clear hK29 K29; clear hK28 K28; clear hK27 K27; clear hK18 K18; clear hK17 K17; clear hK16 K16; clear hK15 K15; clear hK14 K14; clear hK13 K13; clear hK12 K12; clear hK11 K11; clear hK10 K10; clear hK9 K9; clear hK8 K8; clear hK7 K7; clear hK2 K2; clear hK1 K1; clear hK0 K0;  simp_all)) (.nil (by repeat first | exact Mx.refl | exact Mx.mix | refine Mx.put rfl ?_ | refine Mx.upd rfl ?_ | refine Mx.updl rfl ?_ | refine Mx.fin rfl ?_ | refine Mx.inner rfl ?_ | refine Mx.none ?_)))))), rfl, (by simp)⟩
                                | exact ⟨n - (k + 1), (by omega), k + 1, true, false, _, _, _, out, (by rfl), ⟨by omega, ⟨by assumption, hI.stuff (by omega) e1 hzk (by simp only [lastAt]; split <;> first | assumption | omega)⟩⟩, (.cons rfl (.cons rfl (.cons rfl (.consB rfl (by first | rfl | assumption | exact decide_eq_true (by assumption) | exact decide_eq_false (by assumption) | (clear hK34 K34; clear hK33 K33; clear hK29 K29; clear hK28 K28; clear hK27 K27; clear hK18 K18; clear hK17 K17; clear hK16 K16; clear hK15 K15; clear hK14 K14; clear hK13 K13; clear hK12 K12; clear hK11 K11; clear hK10 K10; clear hK9 K9; clear hK8 K8; clear hK7 K7; clear hK2 K2; clear hK1 K1; clear hK0 K0;  simp_all)) (.nil (by repeat first | exact Mx.refl | exact Mx.mix | refine Mx.put rfl ?_ | refine Mx.upd rfl ?_ | refine Mx.updl rfl ?_ | refine Mx.fin rfl ?_ | refine Mx.inner rfl ?_ | refine Mx.none ?_)))))), rfl, rfl⟩
                              )
                           ·try simp only [decide_eq_true_eq, decide_eq_false_iff_not, Bool.not_eq_true', Bool.not_eq_false', Int.not_lt, Int.not_le, Int.toNat_natCast] at hs11
                            first
                             | (exfalso; clear hK34 K34; clear hK33 K33; clear hK29 K29; clear hK28 K28; clear hK27 K27; clear hK18 K18; clear hK17 K17; clear hK16 K16; clear hK15 K15; clear hK14 K14; clear hK13 K13; clear hK12 K12; clear hK11 K11; clear hK10 K10; clear hK9 K9; clear hK8 K8; clear hK7 K7; clear hK2 K2; clear hK1 K1; clear hK0 K0; first | omega | contradiction)
                             | (
                              refine RL.guard_no rfl rfl rfl ?_
                              refine RL.guard_no rfl rfl rfl ?_
                              refine RL.guard_no rfl rfl rfl ?_
                              refine RL.guard_no rfl rfl rfl ?_
                              refine RL.guard_no rfl rfl rfl ?_
                              refine RL.guard_no rfl rfl rfl ?_
                              refine RL.st ?_
                              refine NV.p T ?_
                              refine RL.st ?_
                              refine NV.p T ?_
                              refine RL.nil _ _ _ _ ?_
                              refine hK14 _ _ _ ?_
                              refine SW.region _ _ _ _ ?_
                              refine RL.st ?_
                              first | refine NV.arith rfl rfl rfl rfl (by omega) (by omega) ?_ | refine NV.p T ?_
                              refine RL.st ?_
                              refine NV.p T ?_
                              refine RL.nil _ _ _ _ ?_
                              first
                                | exact ⟨n - (k + 1), (by omega), k + 1, false, decide (((out.length : Int) + 1).tmod ev = 0), _, _, _, out ++ [es.getD k 0], (by rfl), ⟨by omega, ⟨by simp; omega, hI.see (by omega) e1 hzk rfl⟩⟩, (.cons rfl (.cons rfl (.cons rfl (.consB rfl (by first | rfl | assumption | exact decide_eq_true (by assumption) | exact decide_eq_false (by assumption) | (clear hK34 K34; clear hK33 K33; clear hK29 K29; clear hK28 K28; clear hK27 K27; clear hK18 K18; clear hK17 K17; clear hK16 K16; clear hK15 K15; clear hK14 K14; clear hK13 K13; clear hK12 K12; clear hK11 K11; clear hK10 K10; clear hK9 K9; clear hK8 K8; clear hK7 K7; clear hK2 K2; clear hK1 K1; clear hK0 K0;  simp_all)) (.nil (by repeat first | exact Mx.refl | exact Mx.mix | refine Mx.put rfl ?_ | refine Mx.upd rfl ?_ | refine Mx.updl rfl ?_ | refine Mx.fin rfl ?_ | refine Mx.inner rfl ?_ | refine Mx.none ?_)))))), rfl, (by simp)⟩
                                | exact ⟨n - (k + 1), (by omega), k + 1, true, false, _, _, _, out, (by rfl), ⟨by omega, ⟨by assumption, hI.stuff (by omega) e1 hzk (by simp only [lastAt]; split <;> first | assumption | omega)⟩⟩, (.cons rfl (.cons rfl (.cons rfl (.consB rfl (by first | rfl | assumption | exact decide_eq_true (by assumption) | exact decide_eq_false (by assumption) | (clear hK34 K34; clear hK33 K33; clear hK29 K29; clear hK28 K28; clear hK27 K27; clear hK18 K18; clear hK17 K17; clear hK16 K16; clear hK15 K15; clear hK14 K14; clear hK13 K13; clear hK12 K12; clear hK11 K11; clear hK10 K10; clear hK9 K9; clear hK8 K8; clear hK7 K7; clear hK2 K2; clear hK1 K1; clear hK0 K0;  simp_all)) (.nil (by repeat first | exact Mx.refl | exact Mx.mix | refine Mx.put rfl ?_ | refine Mx.upd rfl ?_ | refine Mx.updl rfl ?_ | refine Mx.fin rfl ?_ | refine Mx.inner rfl ?_ | refine Mx.none ?_)))))), rfl, rfl⟩
                              )
                           )
                        ·try simp only [decide_eq_true_eq, decide_eq_false_iff_not, Bool.not_eq_true', Bool.not_eq_false', Int.not_lt, Int.not_le, Int.toNat_natCast] at hc8
                         first
                          | (exfalso; clear hK34 K34; clear hK33 K33; clear hK29 K29; clear hK28 K28; clear hK27 K27; clear hK18 K18; clear hK17 K17; clear hK16 K16; clear hK15 K15; clear hK14 K14; clear hK13 K13; clear hK12 K12; clear hK11 K11; clear hK10 K10; clear hK9 K9; clear hK8 K8; clear hK7 K7; clear hK2 K2; clear hK1 K1; clear hK0 K0; first | omega | contradiction)
                          | (
                           refine SW.skip ?_
                           refine hK33 _ _ _ ?_
                           refine SW.region _ _ _ _ ?_
                           refine RL.st ?_
                           refine NV.p T ?_
                           refine RL.st ?_
                           refine NV.p T ?_
                           refine RL.st ?_
                           refine NV.p T ?_
                           refine RL.split 63 rfl (fun hs12 => ?_) (fun hs12 => ?_)
                           ·try simp only [decide_eq_true_eq, decide_eq_false_iff_not, Bool.not_eq_true', Bool.not_eq_false', Int.not_lt, Int.not_le, Int.toNat_natCast] at hs12
                            first
                             | (exfalso; clear hK34 K34; clear hK33 K33; clear hK29 K29; clear hK28 K28; clear hK27 K27; clear hK18 K18; clear hK17 K17; clear hK16 K16; clear hK15 K15; clear hK14 K14; clear hK13 K13; clear hK12 K12; clear hK11 K11; clear hK10 K10; clear hK9 K9; clear hK8 K8; clear hK7 K7; clear hK2 K2; clear hK1 K1; clear hK0 K0; first | omega | contradiction)
                             | (
                              refine RL.st ?_
                              refine NV.p T ?_
                              refine RL.st ?_
                              refine NV.p T ?_
                              refine RL.st ?_
                              refine NV.p T ?_
                              refine RL.st ?_
                              refine NV.lv1 T ?_
                              refine RL.st ?_
                              refine NV.rem rfl rfl rfl (by omega) rfl ?_
                              refine RL.st ?_
                              refine NV.p T ?_
                              refine RL.st ?_
                              refine NV.p T ?_
                              refine RL.st ?_
                              refine NV.p T ?_
                              refine RL.nil _ _ _ _ ?_
                              refine hK14 _ _ _ ?_
                              refine SW.region _ _ _ _ ?_
                              refine RL.st ?_
                              first | refine NV.arith rfl rfl rfl rfl (by omega) (by omega) ?_ | refine NV.p T ?_
                              refine RL.st ?_
                              refine NV.p T ?_
                              refine RL.nil _ _ _ _ ?_
                              first
                                | exact ⟨n - (k + 1), (by omega), k + 1, false, decide (((out.length : Int) + 1).tmod ev = 0), _, _, _, out ++ [es.getD k 0], (by rfl), ⟨by omega, ⟨by simp; omega, hI.see (by omega) e1 hzk rfl⟩⟩, (.cons rfl (.cons rfl (.cons rfl (.consB rfl (by first | rfl | assumption | exact decide_eq_true (by assumption) | exact decide_eq_false (by assumption) | (clear hK34 K34; clear hK33 K33; clear hK29 K29; clear hK28 K28; clear hK27 K27; clear hK18 K18; clear hK17 K17; clear hK16 K16; clear hK15 K15; clear hK14 K14; clear hK13 K13; clear hK12 K12; clear hK11 K11; clear hK10 K10; clear hK9 K9; clear hK8 K8; clear hK7 K7; clear hK2 K2; clear hK1 K1; clear hK0 K0;  simp_all)) (.nil (by repeat first | exact Mx.refl | exact Mx.mix | refine Mx.put rfl ?_ | refine Mx.upd rfl ?_ | refine Mx.updl rfl ?_ | refine Mx.fin rfl ?_ | refine Mx.inner rfl ?_ | refine Mx.none ?_)))))), rfl, (by simp)⟩
                                | exact ⟨n - (k + 1), (by omega), k + 1, true, false, _, _, _, out, (by rfl), ⟨by omega, ⟨by assumption, hI.stuff (by omega) e1 hzk (by simp only [lastAt]; split <;> first | assumption | omega)⟩⟩, (.cons rfl (.cons rfl (.cons rfl (.consB rfl (by first | rfl | assumption | exact decide_eq_true (by assumption) | exact decide_eq_false (by assumption) | (clear hK34 K34; clear hK33 K33; clear hK29 K29; clear hK28 K28; clear hK27 K27; clear hK18 K18; clear hK17 K17; clear hK16 K16; clear hK15 K15; clear hK14 K14; clear hK13 K13; clear hK12 K12; clear hK11 K11; clear hK10 K10; clear hK9 K9; clear hK8 K8; clear hK7 K7; clear hK2 K2; clear hK1 K1; clear hK0 K0;  simp_all)) (.nil (by repeat first | exact Mx.refl | exact Mx.mix | refine Mx.put rfl ?_ | refine Mx.upd rfl ?_ | refine Mx.updl rfl ?_ | refine Mx.fin rfl ?_ | refine Mx.inner rfl ?_ | refine Mx.none ?_)))))), rfl, rfl⟩
                              )
                           ·try simp only [decide_eq_true_eq, decide_eq_false_iff_not, Bool.not_eq_true', Bool.not_eq_false', Int.not_lt, Int.not_le, Int.toNat_natCast] at hs12
                            first
                             | (exfalso; clear hK34 K34; clear hK33 K33; clear hK29 K29; clear hK28 K28; clear hK27 K27; clear hK18 K18; clear hK17 K17; clear hK16 K16; clear hK15 K15; clear hK14 K14; clear hK13 K13; clear hK12 K12; clear hK11 K11; clear hK10 K10; clear hK9 K9; clear hK8 K8; clear hK7 K7; clear hK2 K2; clear hK1 K1; clear hK0 K0; first | omega | contradiction)
                             | (
                              refine RL.guard_no rfl rfl rfl ?_
                              refine RL.guard_no rfl rfl rfl ?_
                              refine RL.guard_no rfl rfl rfl ?_
                              refine RL.guard_no rfl rfl rfl ?_
                              refine RL.guard_no rfl rfl rfl ?_
                              refine RL.guard_no rfl rfl rfl ?_
                              refine RL.st ?_
                              refine NV.p T ?_
                              refine RL.st ?_
                              refine NV.p T ?_
                              refine RL.nil _ _ _ _ ?_
                              refine hK14 _ _ _ ?_
                              refine SW.region _ _ _ _ ?_
                              refine RL.st ?_
                              first | refine NV.arith rfl rfl rfl rfl (by omega) (by omega) ?_ | refine NV.p T ?_
                              refine RL.st ?_
                              refine NV.p T ?_
                              refine RL.nil _ _ _ _ ?_
                              first
                                | exact ⟨n - (k + 1), (by omega), k + 1, false, decide (((out.length : Int) + 1).tmod ev = 0), _, _, _, out ++ [es.getD k 0], (by rfl), ⟨by omega, ⟨by simp; omega, hI.see (by omega) e1 hzk rfl⟩⟩, (.cons rfl (.cons rfl (.cons rfl (.consB rfl (by first | rfl | assumption | exact decide_eq_true (by assumption) | exact decide_eq_false (by assumption) | (clear hK34 K34; clear hK33 K33; clear hK29 K29; clear hK28 K28; clear hK27 K27; clear hK18 K18; clear hK17 K17; clear hK16 K16; clear hK15 K15; clear hK14 K14; clear hK13 K13; clear hK12 K12; clear hK11 K11; clear hK10 K10; clear hK9 K9; clear hK8 K8; clear hK7 K7; clear hK2 K2; clear hK1 K1; clear hK0 K0;  simp_all)) (.nil (by repeat first | exact Mx.refl | exact Mx.mix | refine Mx.put rfl ?_ | refine Mx.upd rfl ?_ | refine Mx.updl rfl ?_ | refine Mx.fin rfl ?_ | refine Mx.inner rfl ?_ | refine Mx.none ?_)))))), rfl, (by simp)⟩
                                | exact ⟨n - (k + 1), (by omega), k + 1, true, false, _, _, _, out, (by rfl), ⟨by omega, ⟨by assumption, hI.stuff (by omega) e1 hzk (by simp only [lastAt]; split <;> first | assumption | omega)⟩⟩, (.cons rfl (.cons rfl (.cons rfl (.consB rfl (by first | rfl | assumption | exact decide_eq_true (by assumption) | exact decide_eq_false (by assumption) | (clear hK34 K34; clear hK33 K33; clear hK29 K29; clear hK28 K28; clear hK27 K27; clear hK18 K18; clear hK17 K17; clear hK16 K16; clear hK15 K15; clear hK14 K14; clear hK13 K13; clear hK12 K12; clear hK11 K11; clear hK10 K10; clear hK9 K9; clear hK8 K8; clear hK7 K7; clear hK2 K2; clear hK1 K1; clear hK0 K0;  simp_all)) (.nil (by repeat first | exact Mx.refl | exact Mx.mix | refine Mx.put rfl ?_ | refine Mx.upd rfl ?_ | refine Mx.updl rfl ?_ | refine Mx.fin rfl ?_ | refine Mx.inner rfl ?_ | refine Mx.none ?_)))))), rfl, rfl⟩
                              )
                           )
                        )
                     )
                  )
               ·try simp only [decide_eq_true_eq, decide_eq_false_iff_not, Bool.not_eq_true', Bool.not_eq_false', Int.not_lt, Int.not_le, Int.toNat_natCast] at hc1
                first
                 | (exfalso; clear hK13 K13; clear hK12 K12; clear hK11 K11; clear hK10 K10; clear hK9 K9; clear hK8 K8; clear hK7 K7; clear hK2 K2; clear hK1 K1; clear hK0 K0; first | omega | contradiction)
                 | (
                  refine SW.exit ?_
                  refine hK10 _ _ _ ?_
                  refine SW.seq_k ?_
                  intro K35 hK35
                  refine SW.seq_k ?_
                  intro K36 hK36
                  refine SW.region _ _ _ _ ?_
                  refine RL.st ?_
                  refine NV.p T ?_
                  refine RL.nil _ _ _ _ ?_
                  refine hK36 _ _ _ ?_
                  refine SW.cond rfl (fun hc9 => ?_) (fun hc9 => ?_)
                  ·try simp only [decide_eq_true_eq, decide_eq_false_iff_not, Bool.not_eq_true', Bool.not_eq_false', Int.not_lt, Int.not_le, Int.toNat_natCast] at hc9
                   first
                    | (exfalso; clear hK36 K36; clear hK35 K35; clear hK13 K13; clear hK12 K12; clear hK11 K11; clear hK10 K10; clear hK9 K9; clear hK8 K8; clear hK7 K7; clear hK2 K2; clear hK1 K1; clear hK0 K0; first | omega | contradiction)
                    | (
                     refine SW.seq_k ?_
                     intro K37 hK37
                     refine SW.region _ _ _ _ ?_
                     refine RL.st ?_
                     refine NV.p T ?_
                     refine RL.st ?_
                     refine NV.p T ?_
                     refine RL.nil _ _ _ _ ?_
                     refine hK37 _ _ _ ?_
                     refine SW.sat (fun hs => ?_)
                     refine SW.ret ?_
                     refine retQ.ret (RVs.tmp (by conv => lhs; whnf) (RVs.tmp (by conv => lhs; whnf) RVs.nil)) (fun w hw => hw) ?_
                     clear hK37 K37 hK36 K36 hK35 K35 hK13 K13 hK12 K12 hK11 K11 hK10 K10 hK9 K9 hK8 K8 hK7 K7 hK2 K2 hK1 K1 hK0 K0
                     first
                       | (rw [getV_none hf (hI.gi.bad (by omega) rfl (by simp only [lastAt]; split <;> first | assumption | omega))]; exact ⟨_, rfl, none, 0, 0, rfl, rfl, Rd.nilS, [_, _], rfl⟩)
                       | (rw [getV_more hf ((show d = true by assumption) ▸ hI.gi.done (by omega))]; exact ⟨_, rfl, none, 0, 0, rfl, rfl, Rd.nilS, [_, _], rfl⟩)
                       | (rw [getV_ok hf ((show d = false by assumption) ▸ hI.gi.done (by omega))]; exact ⟨_, rfl, Res.row hs (At.head _ _) (G := [_, _]) rfl⟩)
                     )
                  ·try simp only [decide_eq_true_eq, decide_eq_false_iff_not, Bool.not_eq_true', Bool.not_eq_false', Int.not_lt, Int.not_le, Int.toNat_natCast] at hc9
                   first
                    | (exfalso; clear hK36 K36; clear hK35 K35; clear hK13 K13; clear hK12 K12; clear hK11 K11; clear hK10 K10; clear hK9 K9; clear hK8 K8; clear hK7 K7; clear hK2 K2; clear hK1 K1; clear hK0 K0; first | omega | contradiction)
                    | (
                     refine SW.skip ?_
                     refine hK35 _ _ _ ?_
                     refine SW.seq_k ?_
                     intro K38 hK38
                     refine SW.region _ _ _ _ ?_
                     refine RL.st ?_
                     refine NV.p T ?_
                     refine RL.st ?_
                     refine NV.p T ?_
                     refine RL.st ?_
                     refine NV.p T ?_
                     refine RL.nil _ _ _ _ ?_
                     refine hK38 _ _ _ ?_
                     refine SW.sat (fun hs => ?_)
                     refine SW.ret ?_
                     refine retQ.ret (RVs.tmp (by conv => lhs; whnf) (RVs.tmp (by conv => lhs; whnf) RVs.nil)) (fun w hw => hw) ?_
                     clear hK38 K38 hK36 K36 hK35 K35 hK13 K13 hK12 K12 hK11 K11 hK10 K10 hK9 K9 hK8 K8 hK7 K7 hK2 K2 hK1 K1 hK0 K0
                     first
                       | (rw [getV_none hf (hI.gi.bad (by omega) rfl (by simp only [lastAt]; split <;> first | assumption | omega))]; exact ⟨_, rfl, none, 0, 0, rfl, rfl, Rd.nilS, [_, _], rfl⟩)
                       | (rw [getV_more hf ((show d = true by assumption) ▸ hI.gi.done (by omega))]; exact ⟨_, rfl, none, 0, 0, rfl, rfl, Rd.nilS, [_, _], rfl⟩)
                       | (rw [getV_ok hf ((show d = false by assumption) ▸ hI.gi.done (by omega))]; exact ⟨_, rfl, Res.row hs (At.head _ _) (G := [_, _]) rfl⟩)
                     )
                  )
              ·skip
               refine SW.seq_k ?_
               intro K39 hK39
               refine SW.region _ _ _ _ ?_
               refine RL.st ?_
               refine NV.p T ?_
               refine RL.nil _ _ _ _ ?_
               refine hK39 _ _ _ ?_
               refine SW.seq_k ?_
               intro K40 hK40
               refine SW.cond rfl (fun hc10 => ?_) (fun hc10 => ?_)
               ·try simp only [decide_eq_true_eq, decide_eq_false_iff_not, Bool.not_eq_true', Bool.not_eq_false', Int.not_lt, Int.not_le, Int.toNat_natCast] at hc10
                first
                 | (exfalso; clear hK40 K40; clear hK39 K39; clear hK11 K11; clear hK10 K10; clear hK9 K9; clear hK8 K8; clear hK7 K7; clear hK2 K2; clear hK1 K1; clear hK0 K0; first | omega | contradiction)
                 | (
                  refine SW.skip ?_
                  refine hK40 _ _ _ ?_
                  refine SW.seq_k ?_
                  intro K41 hK41
                  refine SW.block ?_
                  refine SW.seq_k ?_
                  intro K42 hK42
                  refine SW.region _ _ _ _ ?_
                  refine RL.st ?_
                  refine NV.p T ?_
                  refine RL.st ?_
                  first
                    | refine NV.index_array T rfl rfl rfl rfl rfl (by omega) (by omega) ?_
                    | refine NV.index_slice T rfl rfl rfl rfl rfl (by first | exact hR | exact hR.cons | exact hR.cons.cons | exact hR.cons.cons.cons | exact Rd.row (At.head _ _) hs) (by omega) (by omega) ?_
                  refine RL.st ?_
                  refine NV.load_elem T rfl rfl rfl rfl (by first | exact hR | exact hR.cons | exact hR.cons.cons | exact hR.cons.cons.cons | exact Rd.row (At.head _ _) hs) (by first | exact map_get _ _ (by omega) | assumption) ?_
                  refine RL.st ?_
                  refine NV.p T ?_
                  refine RL.st ?_
                  refine NV.p T ?_
                  refine RL.nil _ _ _ _ ?_
                  refine hK42 _ _ _ ?_
                  refine SW.seq_k ?_
                  intro K43 hK43
                  refine SW.region _ _ _ _ ?_
                  refine RL.st ?_
                  refine NV.p T ?_
                  refine RL.st ?_
                  refine NV.p T ?_
                  refine RL.nil _ _ _ _ ?_
                  refine hK43 _ _ _ ?_
                  refine SW.seq_k ?_
                  intro K44 hK44
                  refine SW.seq_k ?_
                  intro K45 hK45
                  refine SW.region _ _ _ _ ?_
                  refine RL.st ?_
                  refine NV.p T ?_
                  refine RL.st ?_
                  refine NV.p T ?_
                  refine RL.nil _ _ _ _ ?_
                  refine hK45 _ _ _ ?_
                  refine SW.cond rfl (fun hc11 => ?_) (fun hc11 => ?_)
                  ·try simp only [decide_eq_true_eq, decide_eq_false_iff_not, Bool.not_eq_true', Bool.not_eq_false', Int.not_lt, Int.not_le, Int.toNat_natCast] at hc11
                   first
                    | (exfalso; clear hK45 K45; clear hK44 K44; clear hK43 K43; clear hK42 K42; clear hK41 K41; clear hK40 K40; clear hK39 K39; clear hK11 K11; clear hK10 K10; clear hK9 K9; clear hK8 K8; clear hK7 K7; clear hK2 K2; clear hK1 K1; clear hK0 K0; first | omega | contradiction)
                    | (
                     refine SW.region _ _ _ _ ?_
                     refine RL.st ?_
                     refine NV.p T ?_
                     refine RL.st ?_
                     refine NV.p T ?_
                     refine RL.st ?_
                     first | refine NV.arith rfl rfl rfl rfl (by omega) (by omega) ?_ | refine NV.p T ?_
                     refine RL.st ?_
                     first
                       | refine NV.index_array T rfl rfl rfl rfl rfl (by omega) (by omega) ?_
                       | refine NV.index_slice T rfl rfl rfl rfl rfl (by first | exact hR | exact hR.cons | exact hR.cons.cons | exact hR.cons.cons.cons | exact Rd.row (At.head _ _) hs) (by omega) (by omega) ?_
                     refine RL.st ?_
                     refine NV.load_elem T rfl rfl rfl rfl (by first | exact hR | exact hR.cons | exact hR.cons.cons | exact hR.cons.cons.cons | exact Rd.row (At.head _ _) hs) (by first | exact map_get _ _ (by omega) | assumption) ?_
                     refine RL.st ?_
                     refine NV.p T ?_
                     refine RL.nil _ _ _ _ ?_
                     refine hK44 _ _ _ ?_
                     refine SW.seq_k ?_
                     intro K46 hK46
                     refine SW.region _ _ _ _ ?_
                     refine RL.st ?_
                     refine NV.p T ?_
                     refine RL.st ?_
                     refine NV.p T ?_
                     refine RL.nil _ _ _ _ ?_
                     refine hK46 _ _ _ ?_
                     refine SW.seq_k ?_
                     intro K47 hK47
                     refine SW.seq_k ?_
                     intro K48 hK48
                     refine SW.region _ _ _ _ ?_
                     refine RL.st ?_
                     refine NV.p T ?_
                     refine RL.st ?_
                     refine NV.p T ?_
                     refine RL.split 50 rfl (fun hs13 => ?_) (fun hs13 => ?_)
                     ·try simp only [decide_eq_true_eq, decide_eq_false_iff_not, Bool.not_eq_true', Bool.not_eq_false', Int.not_lt, Int.not_le, Int.toNat_natCast] at hs13
                      first
                       | (exfalso; clear hK48 K48; clear hK47 K47; clear hK46 K46; clear hK45 K45; clear hK44 K44; clear hK43 K43; clear hK42 K42; clear hK41 K41; clear hK40 K40; clear hK39 K39; clear hK11 K11; clear hK10 K10; clear hK9 K9; clear hK8 K8; clear hK7 K7; clear hK2 K2; clear hK1 K1; clear hK0 K0; first | omega | contradiction)
                       | (
                        refine RL.st ?_
                        refine NV.p T ?_
                        refine RL.st ?_
                        refine NV.p T ?_
                        refine RL.st ?_
                        refine NV.p T ?_
                        refine RL.st ?_
                        refine NV.p T ?_
                        refine RL.nil _ _ _ _ ?_
                        refine hK48 _ _ _ ?_
                        refine SW.cond rfl (fun hc12 => ?_) (fun hc12 => ?_)
                        ·try simp only [decide_eq_true_eq, decide_eq_false_iff_not, Bool.not_eq_true', Bool.not_eq_false', Int.not_lt, Int.not_le, Int.toNat_natCast] at hc12
                         first
                          | (exfalso; clear hK48 K48; clear hK47 K47; clear hK46 K46; clear hK45 K45; clear hK44 K44; clear hK43 K43; clear hK42 K42; clear hK41 K41; clear hK40 K40; clear hK39 K39; clear hK11 K11; clear hK10 K10; clear hK9 K9; clear hK8 K8; clear hK7 K7; clear hK2 K2; clear hK1 K1; clear hK0 K0; first | omega | contradiction)
                          | (
                           refine SW.seq_k ?_
                           intro K49 hK49
                           refine SW.region _ _ _ _ ?_
                           refine RL.st ?_
                           refine NV.p T ?_
                           refine RL.st ?_
                           refine NV.p T ?_
                           refine RL.nil _ _ _ _ ?_
                           refine hK49 _ _ _ ?_
                           refine SW.sat (fun hs => ?_)
                           refine SW.ret ?_
                           refine retQ.ret (RVs.tmp (by conv => lhs; whnf) (RVs.tmp (by conv => lhs; whnf) RVs.nil)) (fun w hw => hw) ?_
                           clear hK49 K49 hK48 K48 hK47 K47 hK46 K46 hK45 K45 hK44 K44 hK43 K43 hK42 K42 hK41 K41 hK40 K40 hK39 K39 hK11 K11 hK10 K10 hK9 K9 hK8 K8 hK7 K7 hK2 K2 hK1 K1 hK0 K0
                           first
                             | (rw [getV_none hf (hI.gi.bad (by omega) rfl (by simp only [lastAt]; split <;> first | assumption | omega))]; exact ⟨_, rfl, none, 0, 0, rfl, rfl, Rd.nilS, [_, _], rfl⟩)
                             | (rw [getV_more hf ((show d = true by assumption) ▸ hI.gi.done (by omega))]; exact ⟨_, rfl, none, 0, 0, rfl, rfl, Rd.nilS, [_, _], rfl⟩)
                             | (rw [getV_ok hf ((show d = false by assumption) ▸ hI.gi.done (by omega))]; exact ⟨_, rfl, Res.row hs (At.head _ _) (G := [_, _]) rfl⟩)
                           )
                        ·try simp only [decide_eq_true_eq, decide_eq_false_iff_not, Bool.not_eq_true', Bool.not_eq_false', Int.not_lt, Int.not_le, Int.toNat_natCast] at hc12
                         first
                          | (exfalso; clear hK48 K48; clear hK47 K47; clear hK46 K46; clear hK45 K45; clear hK44 K44; clear hK43 K43; clear hK42 K42; clear hK41 K41; clear hK40 K40; clear hK39 K39; clear hK11 K11; clear hK10 K10; clear hK9 K9; clear hK8 K8; clear hK7 K7; clear hK2 K2; clear hK1 K1; clear hK0 K0; first | omega | contradiction)
                          | (
                           refine SW.skip ?_
                           refine hK47 _ _ _ ?_
                           refine SW.seq_k ?_
                           intro K50 hK50
                           refine SW.seq_k ?_
                           intro K51 hK51
                           refine SW.region _ _ _ _ ?_
                           refine RL.st ?_
                           refine NV.p T ?_
                           refine RL.st ?_
                           refine NV.p T ?_
                           refine RL.nil _ _ _ _ ?_
                           refine hK51 _ _ _ ?_
                           refine SW.cond rfl (fun hc13 => ?_) (fun hc13 => ?_)
                           ·try simp only [decide_eq_true_eq, decide_eq_false_iff_not, Bool.not_eq_true', Bool.not_eq_false', Int.not_lt, Int.not_le, Int.toNat_natCast] at hc13
                            first
                             | (exfalso; clear hK51 K51; clear hK50 K50; clear hK48 K48; clear hK47 K47; clear hK46 K46; clear hK45 K45; clear hK44 K44; clear hK43 K43; clear hK42 K42; clear hK41 K41; clear hK40 K40; clear hK39 K39; clear hK11 K11; clear hK10 K10; clear hK9 K9; clear hK8 K8; clear hK7 K7; clear hK2 K2; clear hK1 K1; clear hK0 K0; first | omega | contradiction)
                             | (
                              refine SW.region _ _ _ _ ?_
                              refine RL.st ?_
                              refine NV.p T ?_
                              refine RL.st ?_
                              refine NV.p T ?_
                              refine RL.st ?_
                              refine NV.build1 T rfl (by conv => lhs; whnf) rfl rfl (by conv => lhs; whnf) (by exact (rfl : _ = some [_])) ?_
                              intro b59_5
                              refine RL.st ?_
                              first
                                | refine NV.append1 T rfl rfl rfl rfl rfl rfl rfl rfl rfl rfl (by repeat first | exact At.head _ _ | assumption | exact At.put (by assumption) _ | apply At.tail | apply At.app) (ones rfl) (by first | omega | (unfold maxLen; omega)) (by first | omega | (show (_ + _) * 1 ≤ 140737488355328; omega)) ?_
                                | refine NV.append T rfl rfl rfl rfl rfl rfl rfl rfl rfl rfl (by repeat first | exact At.head _ _ | assumption | exact At.put (by assumption) _ | apply At.tail | apply At.app) (by assumption) (ones rfl) (by first | omega | (unfold maxLen; omega)) (by first | omega | (show (_ + _) * 1 ≤ 140737488355328; omega)) ?_
                              intro a4_ c4_
                              refine RL.st ?_
                              refine NV.p T ?_
                              refine RL.nil _ _ _ _ ?_
                              refine hK50 _ _ _ ?_
                              refine SW.region _ _ _ _ ?_
                              refine RL.st ?_
                              refine NV.p T ?_
                              refine RL.st ?_
                              refine NV.p T ?_
                              refine RL.st ?_
                              refine NV.p T ?_
                              refine RL.split 63 rfl (fun hs14 => ?_) (fun hs14 => ?_)
                              ·try simp only [decide_eq_true_eq, decide_eq_false_iff_not, Bool.not_eq_true', Bool.not_eq_false', Int.not_lt, Int.not_le, Int.toNat_natCast] at hs14
                               first
                                | (exfalso; clear hK51 K51; clear hK50 K50; clear hK48 K48; clear hK47 K47; clear hK46 K46; clear hK45 K45; clear hK44 K44; clear hK43 K43; clear hK42 K42; clear hK41 K41; clear hK40 K40; clear hK39 K39; clear hK11 K11; clear hK10 K10; clear hK9 K9; clear hK8 K8; clear hK7 K7; clear hK2 K2; clear hK1 K1; clear hK0 K0; first | omega | contradiction)
                                | (
                                 refine RL.st ?_
                                 refine NV.p T ?_
                                 refine RL.st ?_
                                 refine NV.p T ?_
                                 refine RL.st ?_
                                 refine NV.p T ?_
                                 refine RL.st ?_
                                 refine NV.lv1 T ?_
                                 refine RL.st ?_
                                 refine NV.rem rfl rfl rfl (by omega) rfl ?_
                                 refine RL.st ?_
                                 refine NV.p T ?_
                                 refine RL.st ?_
                                 refine NV.p T ?_
                                 refine RL.st ?_
                                 refine NV.p T ?_
                                 refine RL.nil _ _ _ _ ?_
                                 refine hK41 _ _ _ ?_
                                 refine SW.region _ _ _ _ ?_
                                 refine RL.st ?_
                                 first | refine NV.arith rfl rfl rfl rfl (by omega) (by omega) ?_ | refine NV.p T ?_
                                 refine RL.st ?_
                                 refine NV.p T ?_
                                 refine RL.nil _ _ _ _ ?_
                                 first
                                   | exact ⟨n - (k + 1), (by omega), k + 1, false, decide (((out.length : Int) + 1).tmod ev = 0), _, _, _, out ++ [es.getD k 0], (by rfl), ⟨by omega, ⟨by simp; omega, hI.see (by omega) e1 hzk rfl⟩⟩, (.cons rfl (.cons rfl (.cons rfl (.consB rfl (by first | rfl | assumption | exact decide_eq_true (by assumption) | exact decide_eq_false (by assumption) | (clear hK51 K51; clear hK50 K50; clear hK48 K48; clear hK47 K47; clear hK46 K46; clear hK45 K45; clear hK44 K44; clear hK43 K43; clear hK42 K42; clear hK41 K41; clear hK40 K40; clear hK39 K39; clear hK11 K11; clear hK10 K10; clear hK9 K9; clear hK8 K8; clear hK7 K7; clear hK2 K2; clear hK1 K1; clear hK0 K0;  simp_all)) (.nil (by repeat first | exact Mx.refl | exact Mx.mix | refine Mx.put rfl ?_ | refine Mx.upd rfl ?_ | refine Mx.updl rfl ?_ | refine Mx.fin rfl ?_ | refine Mx.inner rfl ?_ | refine Mx.none ?_)))))), rfl, (by simp)⟩
                                   | exact ⟨n - (k + 1), (by omega), k + 1, true, false, _, _, _, out, (by rfl), ⟨by omega, ⟨by assumption, hI.stuff (by omega) e1 hzk (by simp only [lastAt]; split <;> first | assumption | omega)⟩⟩, (.cons rfl (.cons rfl (.cons rfl (.consB rfl (by first | rfl | assumption | exact decide_eq_true (by assumption) | exact decide_eq_false (by assumption) | (clear hK51 K51; clear hK50 K50; clear hK48 K48; clear hK47 K47; clear hK46 K46; clear hK45 K45; clear hK44 K44; clear hK43 K43; clear hK42 K42; clear hK41 K41; clear hK40 K40; clear hK39 K39; clear hK11 K11; clear hK10 K10; clear hK9 K9; clear hK8 K8; clear hK7 K7; clear hK2 K2; clear hK1 K1; clear hK0 K0;  simp_all)) (.nil (by repeat first | exact Mx.refl | exact Mx.mix | refine Mx.put rfl ?_ | refine Mx.upd rfl ?_ | refine Mx.updl rfl ?_ | refine Mx.fin rfl ?_ | refine Mx.inner rfl ?_ | refine Mx.none ?_)))))), rfl, rfl⟩
                                 )
                              ·try simp only [decide_eq_true_eq, decide_eq_false_iff_not, Bool.not_eq_true', Bool.not_eq_false', Int.not_lt, Int.not_le, Int.toNat_natCast] at hs14
                               first
                                | (exfalso; clear hK51 K51; clear hK50 K50; clear hK48 K48; clear hK47 K47; clear hK46 K46; clear hK45 K45; clear hK44 K44; clear hK43 K43; clear hK42 K42; clear hK41 K41; clear hK40 K40; clear hK39 K39; clear hK11 K11; clear hK10 K10; clear hK9 K9; clear hK8 K8; clear hK7 K7; clear hK2 K2; clear hK1 K1; clear hK0 K0; first | omega | contradiction)
                                | (
                                 refine RL.guard_no rfl rfl rfl ?_
                                 refine RL.guard_no rfl rfl rfl ?_
                                 refine RL.guard_no rfl rfl rfl ?_
                                 refine RL.guard_no rfl rfl rfl ?_
                                 refine RL.guard_no rfl rfl rfl ?_
                                 refine RL.guard_no rfl rfl rfl ?_
                                 refine RL.st ?_
                                 refine NV.p T ?_
                                 refine RL.st ?_
                                 refine NV.p T ?_
                                 refine RL.nil _ _ _ _ ?_
                                 refine hK41 _ _ _ ?_
                                 refine SW.region _ _ _ _ ?_
                                 refine RL.st ?_
                                 first | refine NV.arith rfl rfl rfl rfl (by omega) (by omega) ?_ | refine NV.p T ?_
                                 refine RL.st ?_
                                 refine NV.p T ?_
                                 refine RL.nil _ _ _ _ ?_
                                 first
                                   | exact ⟨n - (k + 1), (by omega), k + 1, false, decide (((out.length : Int) + 1).tmod ev = 0), _, _, _, out ++ [es.getD k 0], (by rfl), ⟨by omega, ⟨by simp; omega, hI.see (by omega) e1 hzk rfl⟩⟩, (.cons rfl (.cons rfl (.cons rfl (.consB rfl (by first | rfl | assumption | exact decide_eq_true (by assumption) | exact decide_eq_false (by assumption) | (clear hK51 K51; clear hK50 K50; clear hK48 K48; clear hK47 K47; clear hK46 K46; clear hK45 K45; clear hK44 K44; clear hK43 K43; clear hK42 K42; clear hK41 K41; clear hK40 K40; clear hK39 K39; clear hK11 K11; clear hK10 K10; clear hK9 K9; clear hK8 K8; clear hK7 K7; clear hK2 K2; clear hK1 K1; clear hK0 K0;  simp_all)) (.nil (by repeat first | exact Mx.refl | exact Mx.mix | refine Mx.put rfl ?_ | refine Mx.upd rfl ?_ | refine Mx.updl rfl ?_ | refine Mx.fin rfl ?_ | refine Mx.inner rfl ?_ | refine Mx.none ?_)))))), rfl, (by simp)⟩
                                   | exact ⟨n - (k + 1), (by omega), k + 1, true, false, _, _, _, out, (by rfl), ⟨by omega, ⟨by assumption, hI.stuff (by omega) e1 hzk (by simp only [lastAt]; split <;> first | assumption | omega)⟩⟩, (.cons rfl (.cons rfl (.cons rfl (.consB rfl (by first | rfl | assumption | exact decide_eq_true (by assumption) | exact decide_eq_false (by assumption) | (clear hK51 K51; clear hK50 K50; clear hK48 K48; clear hK47 K47; clear hK46 K46; clear hK45 K45; clear hK44 K44; clear hK43 K43; clear hK42 K42; clear hK41 K41; clear hK40 K40; clear hK39 K39; clear hK11 K11; clear hK10 K10; clear hK9 K9; clear hK8 K8; clear hK7 K7; clear hK2 K2; clear hK1 K1; clear hK0 K0;  simp_all)) (.nil (by repeat first | exact Mx.refl | exact Mx.mix | refine Mx.put rfl ?_ | refine Mx.upd rfl ?_ | refine Mx.updl rfl ?_ | refine Mx.fin rfl ?_ | refine Mx.inner rfl ?_ | refine Mx.none ?_)))))), rfl, rfl⟩
                                 )
                              )
                           ·try simp only [decide_eq_true_eq, decide_eq_false_iff_not, Bool.not_eq_true', Bool.not_eq_false', Int.not_lt, Int.not_le, Int.toNat_natCast] at hc13
                            first
                             | (exfalso; clear hK51 K51; clear hK50 K50; clear hK48 K48; clear hK47 K47; clear hK46 K46; clear hK45 K45; clear hK44 K44; clear hK43 K43; clear hK42 K42; clear hK41 K41; clear hK40 K40; clear hK39 K39; clear hK11 K11; clear hK10 K10; clear hK9 K9; clear hK8 K8; clear hK7 K7; clear hK2 K2; clear hK1 K1; clear hK0 K0; first | omega | contradiction)
                             | (
                              refine SW.skip ?_
                              refine hK50 _ _ _ ?_
                              refine SW.region _ _ _ _ ?_
                              refine RL.st ?_
                              refine NV.p T ?_
                              refine RL.st ?_
                              refine NV.p T ?_
                              refine RL.st ?_
                              refine NV.p T ?_
                              refine RL.split 63 rfl (fun hs15 => ?_) (fun hs15 => ?_)
                              ·try simp only [decide_eq_true_eq, decide_eq_false_iff_not, Bool.not_eq_true', Bool.not_eq_false', Int.not_lt, Int.not_le, Int.toNat_natCast] at hs15
                               first
                                | (exfalso; clear hK51 K51; clear hK50 K50; clear hK48 K48; clear hK47 K47; clear hK46 K46; clear hK45 K45; clear hK44 K44; clear hK43 K43; clear hK42 K42; clear hK41 K41; clear hK40 K40; clear hK39 K39; clear hK11 K11; clear hK10 K10; clear hK9 K9; clear hK8 K8; clear hK7 K7; clear hK2 K2; clear hK1 K1; clear hK0 K0; first | omega | contradiction)
                                | (
                                 refine RL.st ?_
                                 refine NV.p T ?_
                                 refine RL.st ?_
                                 refine NV.p T ?_
                                 refine RL.st ?_
                                 refine NV.p T ?_
                                 refine RL.st ?_
                                 refine NV.lv1 T ?_
                                 refine RL.st ?_
                                 refine NV.rem rfl rfl rfl (by omega) rfl ?_
                                 refine RL.st ?_
                                 refine NV.p T ?_
                                 refine RL.st ?_
                                 refine NV.p T ?_
                                 refine RL.st ?_
                                 refine NV.p T ?_
                                 refine RL.nil _ _ _ _ ?_
                                 refine hK41 _ _ _ ?_
                                 refine SW.region _ _ _ _ ?_
                                 refine RL.st ?_
                                 first | refine NV.arith rfl rfl rfl rfl (by omega) (by omega) ?_ | refine NV.p T ?_
                                 refine RL.st ?_
                                 refine NV.p T ?_
                                 refine RL.nil _ _ _ _ ?_
                                 first
                                   | exact ⟨n - (k + 1), (by omega), k + 1, false, decide (((out.length : Int) + 1).tmod ev = 0), _, _, _, out ++ [es.getD k 0], (by rfl), ⟨by omega, ⟨by simp; omega, hI.see (by omega) e1 hzk rfl⟩⟩, (.cons rfl (.cons rfl (.cons rfl (.consB rfl (by first | rfl | assumption | exact decide_eq_true (by assumption) | exact decide_eq_false (by assumption) | (clear hK51 K51; clear hK50 K50; clear hK48 K48; clear hK47 K47; clear hK46 K46; clear hK45 K45; clear hK44 K44; clear hK43 K43; clear hK42 K42; clear hK41 K41; clear hK40 K40; clear hK39 K39; clear hK11 K11; clear hK10 K10; clear hK9 K9; clear hK8 K8; clear hK7 K7; clear hK2 K2; clear hK1 K1; clear hK0 K0;  simp_all)) (.nil (by repeat first | exact Mx.refl | exact Mx.mix | refine Mx.put rfl ?_ | refine Mx.upd rfl ?_ | refine Mx.updl rfl ?_ | refine Mx.fin rfl ?_ | refine Mx.inner rfl ?_ | refine Mx.none ?_)))))), rfl, (by simp)⟩
                                   | exact ⟨n - (k + 1), (by omega), k + 1, true, false, _, _, _, out, (by rfl), ⟨by omega, ⟨by assumption, hI.stuff (by omega) e1 hzk (by simp only [lastAt]; split <;> first | assumption | omega)⟩⟩, (.cons rfl (.cons rfl (.cons rfl (.consB rfl (by first | rfl | assumption | exact decide_eq_true (by assumption) | exact decide_eq_false (by assumption) | (clear hK51 K51; clear hK50 K50; clear hK48 K48; clear hK47 K47; clear hK46 K46; clear hK45 K45; clear hK44 K44; clear hK43 K43; clear hK42 K42; clear hK41 K41; clear hK40 K40; clear hK39 K39; clear hK11 K11; clear hK10 K10; clear hK9 K9; clear hK8 K8; clear hK7 K7; clear hK2 K2; clear hK1 K1; clear hK0 K0;  simp_all)) (.nil (by repeat first | exact Mx.refl | exact Mx.mix | refine Mx.put rfl ?_ | refine Mx.upd rfl ?_ | refine Mx.updl rfl ?_ | refine Mx.fin rfl ?_ | refine Mx.inner rfl ?_ | refine Mx.none ?_)))))), rfl, rfl⟩
                                 )
                              ·try simp only [decide_eq_true_eq, decide_eq_false_iff_not, Bool.not_eq_true', Bool.not_eq_false', Int.not_lt, Int.not_le, Int.toNat_natCast] at hs15
                               first
                                | (exfalso; clear hK51 K51; clear hK50 K50; clear hK48 K48; clear hK47 K47; clear hK46 K46; clear hK45 K45; clear hK44 K44; clear hK43 K43; clear hK42 K42; clear hK41 K41; clear hK40 K40; clear hK39 K39; clear hK11 K11; clear hK10 K10; clear hK9 K9; clear hK8 K8; clear hK7 K7; clear hK2 K2; clear hK1 K1; clear hK0 K0; first | omega | contradiction)
                                | (
                                 refine RL.guard_no rfl rfl rfl ?_
                                 refine RL.guard_no rfl rfl rfl ?_
                                 refine RL.guard_no rfl rfl rfl ?_
                                 refine RL.guard_no rfl rfl rfl ?_
                                 refine RL.guard_no rfl rfl rfl ?_
                                 refine RL.guard_no rfl rfl rfl ?_
                                 refine RL.st ?_
                                 refine NV.p T ?_
                                 refine RL.st ?_
                                 refine NV.p T ?_
                                 refine RL.nil _ _ _ _ ?_
                                 refine hK41 _ _ _ ?_
                                 refine SW.region _ _ _ _ ?_
                                 refine RL.st ?_
                                 first | refine NV.arith rfl rfl rfl rfl (by omega) (by omega) ?_ | refine NV.p T ?_
                                 refine RL.st ?_
                                 refine NV.p T ?_
                                 refine RL.nil _ _ _ _ ?_
                                 first
                                   | exact ⟨n - (k + 1), (by omega), k + 1, false, decide (((out.length : Int) + 1).tmod ev = 0), _, _, _, out ++ [es.getD k 0], (by rfl), ⟨by omega, ⟨by simp; omega, hI.see (by omega) e1 hzk rfl⟩⟩, (.cons rfl (.cons rfl (.cons rfl (.consB rfl (by first | rfl | assumption | exact decide_eq_true (by assumption) | exact decide_eq_false (by assumption) | (clear hK51 K51; clear hK50 K50; clear hK48 K48; clear hK47 K47; clear hK46 K46; clear hK45 K45; clear hK44 K44; clear hK43 K43; clear hK42 K42; clear hK41 K41; clear hK40 K40; clear hK39 K39; clear hK11 K11; clear hK10 K10; clear hK9 K9; clear hK8 K8; clear hK7 K7; clear hK2 K2; clear hK1 K1; clear hK0 K0;  simp_all)) (.nil (by repeat first | exact Mx.refl | exact Mx.mix | refine Mx.put rfl ?_ | refine Mx.upd rfl ?_ | refine Mx.updl rfl ?_ | refine Mx.fin rfl ?_ | refine Mx.inner rfl ?_ | refine Mx.none ?_)))))), rfl, (by simp)⟩
                                   | exact ⟨n - (k + 1), (by omega), k + 1, true, false, _, _, _, out, (by rfl), ⟨by omega, ⟨by assumption, hI.stuff (by omega) e1 hzk (by simp only [lastAt]; split <;> first | assumption | omega)⟩⟩, (.cons rfl (.cons rfl (.cons rfl (.consB rfl (by first | rfl | assumption | exact decide_eq_true (by assumption) | exact decide_eq_false (by assumption) | (clear hK51 K51; clear hK50 K50; clear hK48 K48; clear hK47 K47; clear hK46 K46; clear hK45 K45; clear hK44 K44; clear hK43 K43; clear hK42 K42; clear hK41 K41; clear hK40 K40; clear hK39 K39; clear hK11 K11; clear hK10 K10; clear hK9 K9; clear hK8 K8; clear hK7 K7; clear hK2 K2; clear hK1 K1; clear hK0 K0;  simp_all)) (.nil (by repeat first | exact Mx.refl | exact Mx.mix | refine Mx.put rfl ?_ | refine Mx.upd rfl ?_ | refine Mx.updl rfl ?_ | refine Mx.fin rfl ?_ | refine Mx.inner rfl ?_ | refine Mx.none ?_)))))), rfl, rfl⟩
                                 )
                              )
                           )
                        )
                     ·try simp only [decide_eq_true_eq, decide_eq_false_iff_not, Bool.not_eq_true', Bool.not_eq_false', Int.not_lt, Int.not_le, Int.toNat_natCast] at hs13
                      first
                       | (exfalso; clear hK48 K48; clear hK47 K47; clear hK46 K46; clear hK45 K45; clear hK44 K44; clear hK43 K43; clear hK42 K42; clear hK41 K41; clear hK40 K40; clear hK39 K39; clear hK11 K11; clear hK10 K10; clear hK9 K9; clear hK8 K8; clear hK7 K7; clear hK2 K2; clear hK1 K1; clear hK0 K0; first | omega | contradiction)
                       | (
                        refine RL.guard_no rfl rfl rfl ?_
                        refine RL.guard_no rfl rfl rfl ?_
                        refine RL.guard_no rfl rfl rfl ?_
                        refine RL.st ?_
                        refine NV.p T ?_
                        refine RL.nil _ _ _ _ ?_
                        refine hK48 _ _ _ ?_
                        refine SW.cond_f rfl ?_
                        refine SW.skip ?_
                        refine hK47 _ _ _ ?_
                        refine SW.seq_k ?_
                        intro K52 hK52
                        refine SW.seq_k ?_
                        intro K53 hK53
                        refine SW.region _ _ _ _ ?_
                        refine RL.st ?_
                        refine NV.p T ?_
                        refine RL.st ?_
                        refine NV.p T ?_
                        refine RL.nil _ _ _ _ ?_
                        refine hK53 _ _ _ ?_
                        refine SW.cond rfl (fun hc14 => ?_) (fun hc14 => ?_)
                        ·try simp only [decide_eq_true_eq, decide_eq_false_iff_not, Bool.not_eq_true', Bool.not_eq_false', Int.not_lt, Int.not_le, Int.toNat_natCast] at hc14
                         first
                          | (exfalso; clear hK53 K53; clear hK52 K52; clear hK48 K48; clear hK47 K47; clear hK46 K46; clear hK45 K45; clear hK44 K44; clear hK43 K43; clear hK42 K42; clear hK41 K41; clear hK40 K40; clear hK39 K39; clear hK11 K11; clear hK10 K10; clear hK9 K9; clear hK8 K8; clear hK7 K7; clear hK2 K2; clear hK1 K1; clear hK0 K0; first | omega | contradiction)
                          | (
                           refine SW.region _ _ _ _ ?_
                           refine RL.st ?_
                           refine NV.p T ?_
                           refine RL.st ?_
                           refine NV.p T ?_
                           refine RL.st ?_
                           refine NV.build1 T rfl (by conv => lhs; whnf) rfl rfl (by conv => lhs; whnf) (by exact (rfl : _ = some [_])) ?_
                           intro b59_6
                           refine RL.st ?_
                           first
                             | refine NV.append1 T rfl rfl rfl rfl rfl rfl rfl rfl rfl rfl (by repeat first | exact At.head _ _ | assumption | exact At.put (by assumption) _ | apply At.tail | apply At.app) (ones rfl) (by first | omega | (unfold maxLen; omega)) (by first | omega | (show (_ + _) * 1 ≤ 140737488355328; omega)) ?_
                             | refine NV.append T rfl rfl rfl rfl rfl rfl rfl rfl rfl rfl (by repeat first | exact At.head _ _ | assumption | exact At.put (by assumption) _ | apply At.tail | apply At.app) (by assumption) (ones rfl) (by first | omega | (unfold maxLen; omega)) (by first | omega | (show (_ + _) * 1 ≤ 140737488355328; omega)) ?_
                           intro a5_ c5_
                           refine RL.st ?_
                           refine NV.p T ?_
                           refine RL.nil _ _ _ _ ?_
                           refine hK52 _ _ _ ?_
                           refine SW.region _ _ _ _ ?_
                           refine RL.st ?_
                           refine NV.p T ?_
                           refine RL.st ?_
                           refine NV.p T ?_
                           refine RL.st ?_
                           refine NV.p T ?_
                           refine RL.split 63 rfl (fun hs16 => ?_) (fun hs16 => ?_)
                           ·try simp only [decide_eq_true_eq, decide_eq_false_iff_not, Bool.not_eq_true', Bool.not_eq_false', Int.not_lt, Int.not_le, Int.toNat_natCast] at hs16
                            first
                             | (exfalso; clear hK53 K53; clear hK52 K52; clear hK48 K48; clear hK47 K47; clear hK46 K46; clear hK45 K45; clear hK44 K44; clear hK43 K43; clear hK42 K42; clear hK41 K41; clear hK40 K40; clear hK39 K39; clear hK11 K11; clear hK10 K10; clear hK9 K9; clear hK8 K8; clear hK7 K7; clear hK2 K2; clear hK1 K1; clear hK0 K0; first | omega | contradiction)
                             | (
                              refine RL.st ?_
                              refine NV.p T ?_
                              refine RL.st ?_
                              refine NV.p T ?_
                              refine RL.st ?_
                              refine NV.p T ?_
                              refine RL.st ?_
                              refine NV.lv1 T ?_
                              refine RL.st ?_
                              refine NV.rem rfl rfl rfl (by omega) rfl ?_
                              refine RL.st ?_
                              refine NV.p T ?_
                              refine RL.st ?_
                              refine NV.p T ?_
                              refine RL.st ?_
                              refine NV.p T ?_
                              refine RL.nil _ _ _ _ ?_
                              refine hK41 _ _ _ ?_
                              refine SW.region _ _ _ _ ?_
                              refine RL.st ?_
                              first | refine NV.arith rfl rfl rfl rfl (by omega) (by omega) ?_ | refine NV.p T ?_
                              refine RL.st ?_
                              refine NV.p T ?_
                              refine RL.nil _ _ _ _ ?_
                              first
                                | exact ⟨n - (k + 1), (by omega), k + 1, false, decide (((out.length : Int) + 1).tmod ev = 0), _, _, _, out ++ [es.getD k 0], (by rfl), ⟨by omega, ⟨by simp; omega, hI.see (by omega) e1 hzk rfl⟩⟩, (.cons rfl (.cons rfl (.cons rfl (.consB rfl (by first | rfl | assumption | exact decide_eq_true (by assumption) | exact decide_eq_false (by assumption) | (clear hK53 K53; clear hK52 K52; clear hK48 K48; clear hK47 K47; clear hK46 K46; clear hK45 K45; clear hK44 K44; clear hK43 K43; clear hK42 K42; clear hK41 K41; clear hK40 K40; clear hK39 K39; clear hK11 K11; clear hK10 K10; clear hK9 K9; clear hK8 K8; clear hK7 K7; clear hK2 K2; clear hK1 K1; clear hK0 K0;  simp_all)) (.nil (by repeat first | exact Mx.refl | exact Mx.mix | refine Mx.put rfl ?_ | refine Mx.upd rfl ?_ | refine Mx.updl rfl ?_ | refine Mx.fin rfl ?_ | refine Mx.inner rfl ?_ | refine Mx.none ?_)))))), rfl, (by simp)⟩
                                | exact ⟨n - (k + 1), (by omega), k + 1, true, false, _, _, _, out, (by rfl), ⟨by omega, ⟨by assumption, hI.stuff (by omega) e1 hzk (by simp only [lastAt]; split <;> first | assumption | omega)⟩⟩, (.cons rfl (.cons rfl (.cons rfl (.consB rfl (by first | rfl | assumption | exact decide_eq_true (by assumption) | exact decide_eq_false (by assumption) | (clear hK53 K53; clear hK52 K52; clear hK48 K48; clear hK47 K47; clear hK46 K46; clear hK45 K45; clear hK44 K44; clear hK43 K43; clear hK42 K42; clear hK41 K41; clear hK40 K40; clear hK39 K39; clear hK11 K11; clear hK10 K10; clear hK9 K9; clear hK8 K8; clear hK7 K7; clear hK2 K2; clear hK1 K1; clear hK0 K0;  simp_all)) (.nil (by repeat first | exact Mx.refl | exact Mx.mix | refine Mx.put rfl ?_ | refine Mx.upd rfl ?_ | refine Mx.updl rfl ?_ | refine Mx.fin rfl ?_ | refine Mx.inner rfl ?_ | refine Mx.none ?_)))))), rfl, rfl⟩
                              )
                           ·try simp only [decide_eq_true_eq, decide_eq_false_iff_not, Bool.not_eq_true', Bool.not_eq_false', Int.not_lt, Int.not_le, Int.toNat_natCast] at hs16
                            first
                             | (exfalso; clear hK53 K53; clear hK52 K52; clear hK48 K48; clear hK47 K47; clear hK46 K46; clear hK45 K45; clear hK44 K44; clear hK43 K43; clear hK42 K42; clear hK41 K41; clear hK40 K40; clear hK39 K39; clear hK11 K11; clear hK10 K10; clear hK9 K9; clear hK8 K8; clear hK7 K7; clear hK2 K2; clear hK1 K1; clear hK0 K0; first | omega | contradiction)
                             | (
                              refine RL.guard_no rfl rfl rfl ?_
                              refine RL.guard_no rfl rfl rfl ?_
                              refine RL.guard_no rfl rfl rfl ?_
                              refine RL.guard_no rfl rfl rfl ?_
                              refine RL.guard_no rfl rfl rfl ?_
                              refine RL.guard_no rfl rfl rfl ?_
                              refine RL.st ?_
                              refine NV.p T ?_
                              refine RL.st ?_
                              refine NV.p T ?_
                              refine RL.nil _ _ _ _ ?_
                              refine hK41 _ _ _ ?_
                              refine SW.region _ _ _ _ ?_
                              refine RL.st ?_
                              first | refine NV.arith rfl rfl rfl rfl (by omega) (by omega) ?_ | refine NV.p T ?_
                              refine RL.st ?_
                              refine NV.p T ?_
                              refine RL.nil _ _ _ _ ?_
                              first
                                | exact ⟨n - (k + 1), (by omega), k + 1, false, decide (((out.length : Int) + 1).tmod ev = 0), _, _, _, out ++ [es.getD k 0], (by rfl), ⟨by omega, ⟨by simp; omega, hI.see (by omega) e1 hzk rfl⟩⟩, (.cons rfl (.cons rfl (.cons rfl (.consB rfl (by first | rfl | assumption | exact decide_eq_true (by assumption) | exact decide_eq_false (by assumption) | (clear hK53 K53; clear hK52 K52; clear hK48 K48; clear hK47 K47; clear hK46 K46; clear hK45 K45; clear hK44 K44; clear hK43 K43; clear hK42 K42; clear hK41 K41; clear hK40 K40; clear hK39 K39; clear hK11 K11; clear hK10 K10; clear hK9 K9; clear hK8 K8; clear hK7 K7; clear hK2 K2; clear hK1 K1; clear hK0 K0;  simp_all)) (.nil (by repeat first | exact Mx.refl | exact Mx.mix | refine Mx.put rfl ?_ | refine Mx.upd rfl ?_ | refine Mx.updl rfl ?_ | refine Mx.fin rfl ?_ | refine Mx.inner rfl ?_ | refine Mx.none ?_)))))), rfl, (by simp)⟩
                                | exact ⟨n - (k + 1), (by omega), k + 1, true, false, _, _, _, out, (by rfl), ⟨by omega, ⟨by assumption, hI.stuff (by omega) e1 hzk (by simp only [lastAt]; split <;> first | assumption | omega)⟩⟩, (.cons rfl (.cons rfl (.cons rfl (.consB rfl (by first | rfl | assumption | exact decide_eq_true (by assumption) | exact decide_eq_false (by assumption) | (clear hK53 K53; clear hK52 K52; clear hK48 K48; clear hK47 K47; clear hK46 K46; clear hK45 K45; clear hK44 K44; clear hK43 K43; clear hK42 K42; clear hK41 K41; clear hK40 K40; clear hK39 K39; clear hK11 K11; clear hK10 K10; clear hK9 K9; clear hK8 K8; clear hK7 K7; clear hK2 K2; clear hK1 K1; clear hK0 K0;  simp_all)) (.nil (by repeat first | exact Mx.refl | exact Mx.mix | refine Mx.put rfl ?_ | refine Mx.upd rfl ?_ | refine Mx.updl rfl ?_ | refine Mx.fin rfl ?_ | refine Mx.inner rfl ?_ | refine Mx.none ?_)))))), rfl, rfl⟩
                              )
                           )
                        ·try simp only [decide_eq_true_eq, decide_eq_false_iff_not, Bool.not_eq_true', Bool.not_eq_false', Int.not_lt, Int.not_le, Int.toNat_natCast] at hc14
                         first
                          | (exfalso; clear hK53 K53; clear hK52 K52; clear hK48 K48; clear hK47 K47; clear hK46 K46; clear hK45 K45; clear hK44 K44; clear hK43 K43; clear hK42 K42; clear hK41 K41; clear hK40 K40; clear hK39 K39; clear hK11 K11; clear hK10 K10; clear hK9 K9; clear hK8 K8; clear hK7 K7; clear hK2 K2; clear hK1 K1; clear hK0 K0; first | omega | contradiction)
                          | (
                           refine SW.skip ?_
                           refine hK52 _ _ _ ?_
                           refine SW.region _ _ _ _ ?_
                           refine RL.st ?_
                           refine NV.p T ?_
                           refine RL.st ?_
                           refine NV.p T ?_
                           refine RL.st ?_
                           refine NV.p T ?_
                           refine RL.split 63 rfl (fun hs17 => ?_) (fun hs17 => ?_)
                           ·try simp only [decide_eq_true_eq, decide_eq_false_iff_not, Bool.not_eq_true', Bool.not_eq_false', Int.not_lt, Int.not_le, Int.toNat_natCast] at hs17
                            first
                             | (exfalso; clear hK53 K53; clear hK52 K52; clear hK48 K48; clear hK47 K47; clear hK46 K46; clear hK45 K45; clear hK44 K44; clear hK43 K43; clear hK42 K42; clear hK41 K41; clear hK40 K40; clear hK39 K39; clear hK11 K11; clear hK10 K10; clear hK9 K9; clear hK8 K8; clear hK7 K7; clear hK2 K2; clear hK1 K1; clear hK0 K0; first | omega | contradiction)
                             | (
                              refine RL.st ?_
                              refine NV.p T ?_
                              refine RL.st ?_
                              refine NV.p T ?_
                              refine RL.st ?_
                              refine NV.p T ?_
                              refine RL.st ?_
                              refine NV.lv1 T ?_
                              refine RL.st ?_
                              refine NV.rem rfl rfl rfl (by omega) rfl ?_
                              refine RL.st ?_
                              refine NV.p T ?_
                              refine RL.st ?_
                              refine NV.p T ?_
                              refine RL.st ?_
                              refine NV.p T ?_
                              refine RL.nil _ _ _ _ ?_
                              refine hK41 _ _ _ ?_
                              refine SW.region _ _ _ _ ?_
                              refine RL.st ?_
                              first | refine NV.arith rfl rfl rfl rfl (by omega) (by omega) ?_ | refine NV.p T ?_
                              refine RL.st ?_
                              refine NV.p T ?_
                              refine RL.nil _ _ _ _ ?_
                              first
                                | exact ⟨n - (k + 1), (by omega), k + 1, false, decide (((out.length : Int) + 1).tmod ev = 0), _, _, _, out ++ [es.getD k 0], (by rfl), ⟨by omega, ⟨by simp; omega, hI.see (by omega) e1 hzk rfl⟩⟩, (.cons rfl (.cons rfl (.cons rfl (.consB rfl (by first | rfl | assumption | exact decide_eq_true (by assumption) | exact decide_eq_false (by assumption) | (clear hK53 K53; clear hK52 K52; clear hK48 K48; clear hK47 K47; clear hK46 K46; clear hK45 K45; clear hK44 K44; clear hK43 K43; clear hK42 K42; clear hK41 K41; clear hK40 K40; clear hK39 K39; clear hK11 K11; clear hK10 K10; clear hK9 K9; clear hK8 K8; clear hK7 K7; clear hK2 K2; clear hK1 K1; clear hK0 K0;  simp_all)) (.nil (by repeat first | exact Mx.refl | exact Mx.mix | refine Mx.put rfl ?_ | refine Mx.upd rfl ?_ | refine Mx.updl rfl ?_ | refine Mx.fin rfl ?_ | refine Mx.inner rfl ?_ | refine Mx.none ?_)))))), rfl, (by simp)⟩
                                | exact ⟨n - (k + 1), (by omega), k + 1, true, false, _, _, _, out, (by rfl), ⟨by omega, ⟨by assumption, hI.stuff (by omega) e1 hzk (by simp only [lastAt]; split <;> first | assumption | omega)⟩⟩, (.cons rfl (.cons rfl (.cons rfl (.consB rfl (by first | rfl | assumption | exact decide_eq_true (by assumption) | exact decide_eq_false (by assumption) | (clear hK53 K53; clear hK52 K52; clear hK48 K48; clear hK47 K47; clear hK46 K46; clear hK45 K45; clear hK44 K44; clear hK43 K43; clear hK42 K42; clear hK41 K41; clear hK40 K40; clear hK39 K39; clear hK11 K11; clear hK10 K10; clear hK9 K9; clear hK8 K8; clear hK7 K7; clear hK2 K2; clear hK1 K1; clear hK0 K0;  simp_all)) (.nil (by repeat first | exact Mx.refl | exact Mx.mix | refine Mx.put rfl ?_ | refine Mx.upd rfl ?_ | refine Mx.updl rfl ?_ | refine Mx.fin rfl ?_ | refine Mx.inner rfl ?_ | refine Mx.none ?_)))))), rfl, rfl⟩
                              )
                           ·try simp only [decide_eq_true_eq, decide_eq_false_iff_not, Bool.not_eq_true', Bool.not_eq_false', Int.not_lt, Int.not_le, Int.toNat_natCast] at hs17
                            first
                             | (exfalso; clear hK53 K53; clear hK52 K52; clear hK48 K48; clear hK47 K47; clear hK46 K46; clear hK45 K45; clear hK44 K44; clear hK43 K43; clear hK42 K42; clear hK41 K41; clear hK40 K40; clear hK39 K39; clear hK11 K11; clear hK10 K10; clear hK9 K9; clear hK8 K8; clear hK7 K7; clear hK2 K2; clear hK1 K1; clear hK0 K0; first | omega | contradiction)
                             | (
                              refine RL.guard_no rfl rfl rfl ?_
                              refine RL.guard_no rfl rfl rfl ?_
                              refine RL.guard_no rfl rfl rfl ?_
                              refine RL.guard_no rfl rfl rfl ?_
                              refine RL.guard_no rfl rfl rfl ?_
                              refine RL.guard_no rfl rfl rfl ?_
                              refine RL.st ?_
                              refine NV.p T ?_
                              refine RL.st ?_
                              refine NV.p T ?_
                              refine RL.nil _ _ _ _ ?_
                              refine hK41 _ _ _ ?_
                              refine SW.region _ _ _ _ ?_
                              refine RL.st ?_
                              first | refine NV.arith rfl rfl rfl rfl (by omega) (by omega) ?_ | refine NV.p T ?_
                              refine RL.st ?_
                              refine NV.p T ?_
                              refine RL.nil _ _ _ _ ?_
                              first
                                | exact ⟨n - (k + 1), (by omega), k + 1, false, decide (((out.length : Int) + 1).tmod ev = 0), _, _, _, out ++ [es.getD k 0], (by rfl), ⟨by omega, ⟨by simp; omega, hI.see (by omega) e1 hzk rfl⟩⟩, (.cons rfl (.cons rfl (.cons rfl (.consB rfl (by first | rfl | assumption | exact decide_eq_true (by assumption) | exact decide_eq_false (by assumption) | (clear hK53 K53; clear hK52 K52; clear hK48 K48; clear hK47 K47; clear hK46 K46; clear hK45 K45; clear hK44 K44; clear hK43 K43; clear hK42 K42; clear hK41 K41; clear hK40 K40; clear hK39 K39; clear hK11 K11; clear hK10 K10; clear hK9 K9; clear hK8 K8; clear hK7 K7; clear hK2 K2; clear hK1 K1; clear hK0 K0;  simp_all)) (.nil (by repeat first | exact Mx.refl | exact Mx.mix | refine Mx.put rfl ?_ | refine Mx.upd rfl ?_ | refine Mx.updl rfl ?_ | refine Mx.fin rfl ?_ | refine Mx.inner rfl ?_ | refine Mx.none ?_)))))), rfl, (by simp)⟩
                                | exact ⟨n - (k + 1), (by omega), k + 1, true, false, _, _, _, out, (by rfl), ⟨by omega, ⟨by assumption, hI.stuff (by omega) e1 hzk (by simp only [lastAt]; split <;> first | assumption | omega)⟩⟩, (.cons rfl (.cons rfl (.cons rfl (.consB rfl (by first | rfl | assumption | exact decide_eq_true (by assumption) | exact decide_eq_false (by assumption) | (clear hK53 K53; clear hK52 K52; clear hK48 K48; clear hK47 K47; clear hK46 K46; clear hK45 K45; clear hK44 K44; clear hK43 K43; clear hK42 K42; clear hK41 K41; clear hK40 K40; clear hK39 K39; clear hK11 K11; clear hK10 K10; clear hK9 K9; clear hK8 K8; clear hK7 K7; clear hK2 K2; clear hK1 K1; clear hK0 K0;  simp_all)) (.nil (by repeat first | exact Mx.refl | exact Mx.mix | refine Mx.put rfl ?_ | refine Mx.upd rfl ?_ | refine Mx.updl rfl ?_ | refine Mx.fin rfl ?_ | refine Mx.inner rfl ?_ | refine Mx.none ?_)))))), rfl, rfl⟩
                              )
                           )
                        )
                     )
                  ·try simp only [decide_eq_true_eq, decide_eq_false_iff_not, Bool.not_eq_true', Bool.not_eq_false', Int.not_lt, Int.not_le, Int.toNat_natCast] at hc11
                   first
                    | (exfalso; clear hK45 K45; clear hK44 K44; clear hK43 K43; clear hK42 K42; clear hK41 K41; clear hK40 K40; clear hK39 K39; clear hK11 K11; clear hK10 K10; clear hK9 K9; clear hK8 K8; clear hK7 K7; clear hK2 K2; clear hK1 K1; clear hK0 K0; first | omega | contradiction)
                    | (
                     refine SW.skip ?_
                     refine hK44 _ _ _ ?_
                     refine SW.seq_k ?_
                     intro K54 hK54
                     refine SW.region _ _ _ _ ?_
                     refine RL.st ?_
                     refine NV.p T ?_
                     refine RL.st ?_
                     refine NV.p T ?_
                     refine RL.nil _ _ _ _ ?_
                     refine hK54 _ _ _ ?_
                     refine SW.seq_k ?_
                     intro K55 hK55
                     refine SW.seq_k ?_
                     intro K56 hK56
                     refine SW.region _ _ _ _ ?_
                     refine RL.st ?_
                     refine NV.p T ?_
                     refine RL.st ?_
                     refine NV.p T ?_
                     refine RL.split 50 rfl (fun hs18 => ?_) (fun hs18 => ?_)
                     ·try simp only [decide_eq_true_eq, decide_eq_false_iff_not, Bool.not_eq_true', Bool.not_eq_false', Int.not_lt, Int.not_le, Int.toNat_natCast] at hs18
                      first
                       | (exfalso; clear hK56 K56; clear hK55 K55; clear hK54 K54; clear hK45 K45; clear hK44 K44; clear hK43 K43; clear hK42 K42; clear hK41 K41; clear hK40 K40; clear hK39 K39; clear hK11 K11; clear hK10 K10; clear hK9 K9; clear hK8 K8; clear hK7 K7; clear hK2 K2; clear hK1 K1; clear hK0 K0; first | omega | contradiction)
                       | (
                        refine RL.st ?_
                        refine NV.p T ?_
                        refine RL.st ?_
                        refine NV.p T ?_
                        refine RL.st ?_
                        refine NV.p T ?_
                        refine RL.st ?_
                        refine NV.p T ?_
                        refine RL.nil _ _ _ _ ?_
                        refine hK56 _ _ _ ?_
                        refine SW.cond rfl (fun hc15 => ?_) (fun hc15 => ?_)
                        ·try simp only [decide_eq_true_eq, decide_eq_false_iff_not, Bool.not_eq_true', Bool.not_eq_false', Int.not_lt, Int.not_le, Int.toNat_natCast] at hc15
                         first
                          | (exfalso; clear hK56 K56; clear hK55 K55; clear hK54 K54; clear hK45 K45; clear hK44 K44; clear hK43 K43; clear hK42 K42; clear hK41 K41; clear hK40 K40; clear hK39 K39; clear hK11 K11; clear hK10 K10; clear hK9 K9; clear hK8 K8; clear hK7 K7; clear hK2 K2; clear hK1 K1; clear hK0 K0; first | omega | contradiction)
                          | (
                           refine SW.seq_k ?_
                           intro K57 hK57
                           refine SW.region _ _ _ _ ?_
                           refine RL.st ?_
                           refine NV.p T ?_
                           refine RL.st ?_
                           refine NV.p T ?_
                           refine RL.nil _ _ _ _ ?_
                           refine hK57 _ _ _ ?_
                           refine SW.sat (fun hs => ?_)
                           refine SW.ret ?_
                           refine retQ.ret (RVs.tmp (by conv => lhs; whnf) (RVs.tmp (by conv => lhs; whnf) RVs.nil)) (fun w hw => hw) ?_
                           clear hK57 K57 hK56 K56 hK55 K55 hK54 K54 hK45 K45 hK44 K44 hK43 K43 hK42 K42 hK41 K41 hK40 K40 hK39 K39 hK11 K11 hK10 K10 hK9 K9 hK8 K8 hK7 K7 hK2 K2 hK1 K1 hK0 K0
                           first
                             | (rw [getV_none hf (hI.gi.bad (by omega) rfl (by simp only [lastAt]; split <;> first | assumption | omega))]; exact ⟨_, rfl, none, 0, 0, rfl, rfl, Rd.nilS, [_, _], rfl⟩)
                             | (rw [getV_more hf ((show d = true by assumption) ▸ hI.gi.done (by omega))]; exact ⟨_, rfl, none, 0, 0, rfl, rfl, Rd.nilS, [_, _], rfl⟩)
                             | (rw [getV_ok hf ((show d = false by assumption) ▸ hI.gi.done (by omega))]; exact ⟨_, rfl, Res.row hs (At.head _ _) (G := [_, _]) rfl⟩)
                           )
                        ·try simp only [decide_eq_true_eq, decide_eq_false_iff_not, Bool.not_eq_true', Bool.not_eq_false', Int.not_lt, Int.not_le, Int.toNat_natCast] at hc15
                         first
                          | (exfalso; clear hK56 K56; clear hK55 K55; clear hK54 K54; clear hK45 K45; clear hK44 K44; clear hK43 K43; clear hK42 K42; clear hK41 K41; clear hK40 K40; clear hK39 K39; clear hK11 K11; clear hK10 K10; clear hK9 K9; clear hK8 K8; clear hK7 K7; clear hK2 K2; clear hK1 K1; clear hK0 K0; first | omega | contradiction)
                          | (
                           refine SW.skip ?_
                           refine hK55 _ _ _ ?_
                           refine SW.seq_k ?_
                           intro K58 hK58
                           refine SW.seq_k ?_
                           intro K59 hK59
                           refine SW.region _ _ _ _ ?_
                           refine RL.st ?_
                           refine NV.p T ?_
                           refine RL.st ?_
                           refine NV.p T ?_
                           refine RL.nil _ _ _ _ ?_
                           refine hK59 _ _ _ ?_
                           refine SW.cond rfl (fun hc16 => ?_) (fun hc16 => ?_)
                           ·try simp only [decide_eq_true_eq, decide_eq_false_iff_not, Bool.not_eq_true', Bool.not_eq_false', Int.not_lt, Int.not_le, Int.toNat_natCast] at hc16
                            first
                             | (exfalso; clear hK59 K59; clear hK58 K58; clear hK56 K56; clear hK55 K55; clear hK54 K54; clear hK45 K45; clear hK44 K44; clear hK43 K43; clear hK42 K42; clear hK41 K41; clear hK40 K40; clear hK39 K39; clear hK11 K11; clear hK10 K10; clear hK9 K9; clear hK8 K8; clear hK7 K7; clear hK2 K2; clear hK1 K1; clear hK0 K0; first | omega | contradiction)
                             | (
                              refine SW.region _ _ _ _ ?_
                              refine RL.st ?_
                              refine NV.p T ?_
                              refine RL.st ?_
                              refine NV.p T ?_
                              refine RL.st ?_
                              refine NV.build1 T rfl (by conv => lhs; whnf) rfl rfl (by conv => lhs; whnf) (by exact (rfl : _ = some [_])) ?_
                              intro b59_7
                              refine RL.st ?_
                              first
                                | refine NV.append1 T rfl rfl rfl rfl rfl rfl rfl rfl rfl rfl (by repeat first | exact At.head _ _ | assumption | exact At.put (by assumption) _ | apply At.tail | apply At.app) (ones rfl) (by first | omega | (unfold maxLen; omega)) (by first | omega | (show (_ + _) * 1 ≤ 140737488355328; omega)) ?_
                                | refine NV.append T rfl rfl rfl rfl rfl rfl rfl rfl rfl rfl (by repeat first | exact At.head _ _ | assumption | exact At.put (by assumption) _ | apply At.tail | apply At.app) (by assumption) (ones rfl) (by first | omega | (unfold maxLen; omega)) (by first | omega | (show (_ + _) * 1 ≤ 140737488355328; omega)) ?_
                              intro a6_ c6_
                              refine RL.st ?_
                              refine NV.p T ?_
                              refine RL.nil _ _ _ _ ?_
                              refine hK58 _ _ _ ?_
                              refine SW.region _ _ _ _ ?_
                              refine RL.st ?_
                              refine NV.p T ?_
                              refine RL.st ?_
                              refine NV.p T ?_
                              refine RL.st ?_
                              refine NV.p T ?_
                              refine RL.split 63 rfl (fun hs19 => ?_) (fun hs19 => ?_)
                              ·try simp only [decide_eq_true_eq, decide_eq_false_iff_not, Bool.not_eq_true', Bool.not_eq_false', Int.not_lt, Int.not_le, Int.toNat_natCast] at hs19
                               first
                                | (exfalso; clear hK59 K59; clear hK58 K58; clear hK56 K56; clear hK55 K55; clear hK54 K54; clear hK45 K45; clear hK44 K44; clear hK43 K43; clear hK42 K42; clear hK41 K41; clear hK40 K40; clear hK39 K39; clear hK11 K11; clear hK10 K10; clear hK9 K9; clear hK8 K8; clear hK7 K7; clear hK2 K2; clear hK1 K1; clear hK0 K0; first | omega | contradiction)
                                | (
                                 refine RL.st ?_
                                 refine NV.p T ?_
                                 refine RL.st ?_
                                 refine NV.p T ?_
                                 refine RL.st ?_
                                 refine NV.p T ?_
                                 refine RL.st ?_
                                 refine NV.lv1 T ?_
                                 refine RL.st ?_
                                 refine NV.rem rfl rfl rfl (by omega) rfl ?_
                                 refine RL.st ?_
                                 refine NV.p T ?_
                                 refine RL.st ?_
                                 refine NV.p T ?_
                                 refine RL.st ?_
                                 refine NV.p T ?_
                                 refine RL.nil _ _ _ _ ?_
                                 refine hK41 _ _ _ ?_
                                 refine SW.region _ _ _ _ ?_
                                 refine RL.st ?_
                                 first | refine NV.arith rfl rfl rfl rfl (by omega) (by omega) ?_ | refine NV.p T ?_
                                 refine RL.st ?_
                                 refine NV.p T ?_
                                 refine RL.nil _ _ _ _ ?_
                                 first
                                   | exact ⟨n - (k + 1), (by omega), k + 1, false, decide (((out.length : Int) + 1).tmod ev = 0), _, _, _, out ++ [es.getD k 0], (by rfl), ⟨by omega, ⟨by simp; omega, hI.see (by omega) e1 hzk rfl⟩⟩, (.cons rfl (.cons rfl (.cons rfl (.consB rfl (by first | rfl | assumption | exact decide_eq_true (by assumption) | exact decide_eq_false (by assumption) | (clear hK59 K59; clear hK58 K58; clear hK56 K56; clear hK55 K55; clear hK54 K54; clear hK45 K45; clear hK44 K44; clear hK43 K43; clear hK42 K42; clear hK41 K41; clear hK40 K40; clear hK39 K39; clear hK11 K11; clear hK10 K10; clear hK9 K9; clear hK8 K8; clear hK7 K7; clear hK2 K2; clear hK1 K1; clear hK0 K0;  simp_all)) (.nil (by repeat first | exact Mx.refl | exact Mx.mix | refine Mx.put rfl ?_ | refine Mx.upd rfl ?_ | refine Mx.updl rfl ?_ | refine Mx.fin rfl ?_ | refine Mx.inner rfl ?_ | refine Mx.none ?_)))))), rfl, (by simp)⟩
                                   | exact ⟨n - (k + 1), (by omega), k + 1, true, false, _, _, _, out, (by rfl), ⟨by omega, ⟨by assumption, hI.stuff (by omega) e1 hzk (by simp only [lastAt]; split <;> first | assumption | omega)⟩⟩, (.cons rfl (.cons rfl (.cons rfl (.consB rfl (by first | rfl | assumption | exact decide_eq_true (by assumption) | exact decide_eq_false (by assumption) | (clear hK59 K59; clear hK58 K58; clear hK56 K56; clear hK55 K55; clear hK54 K54; clear hK45 K45; clear hK44 K44; clear hK43 K43; clear hK42 K42; clear hK41 K41; clear hK40 K40; clear hK39 K39; clear hK11 K11; clear hK10 K10; clear hK9 K9; clear hK8 K8; clear hK7 K7; clear hK2 K2; clear hK1 K1; clear hK0 K0;  simp_all)) (.nil (by repeat first | exact Mx.refl | exact Mx.mix | refine Mx.put rfl ?_ | refine Mx.upd rfl ?_ | refine Mx.updl rfl ?_ | refine Mx.fin rfl ?_ | refine Mx.inner rfl ?_ | refine Mx.none ?_)))))), rfl, rfl⟩
                                 )
                              ·try simp only [decide_eq_true_eq, decide_eq_false_iff_not, Bool.not_eq_true', Bool.not_eq_false', Int.not_lt, Int.not_le, Int.toNat_natCast] at hs19
                               first
                                | (exfalso; clear hK59 K59; clear hK58 K58; clear hK56 K56; clear hK55 K55; clear hK54 K54; clear hK45 K45; clear hK44 K44; clear hK43 K43; clear hK42 K42; clear hK41 K41; clear hK40 K40; clear hK39 K39; clear hK11 K11; clear hK10 K10; clear hK9 K9; clear hK8 K8; clear hK7 K7; clear hK2 K2; clear hK1 K1; clear hK0 K0; first | omega | contradiction)
                                | (
                                 refine RL.guard_no rfl rfl rfl ?_
                                 refine RL.guard_no rfl rfl rfl ?_
                                 refine RL.guard_no rfl rfl rfl ?_
                                 refine RL.guard_no rfl rfl rfl ?_
                                 refine RL.guard_no rfl rfl rfl ?_
                                 refine RL.guard_no rfl rfl rfl ?_
                                 refine RL.st ?_
                                 refine NV.p T ?_
                                 refine RL.st ?_
                                 refine NV.p T ?_
                                 refine RL.nil _ _ _ _ ?_
                                 refine hK41 _ _ _ ?_
                                 refine SW.region _ _ _ _ ?_
                                 refine RL.st ?_
                                 first | refine NV.arith rfl rfl rfl rfl (by omega) (by omega) ?_ | refine NV.p T ?_
                                 refine RL.st ?_
                                 refine NV.p T ?_
                                 refine RL.nil _ _ _ _ ?_
                                 first
                                   | exact ⟨n - (k + 1), (by omega), k + 1, false, decide (((out.length : Int) + 1).tmod ev = 0), _, _, _, out ++ [es.getD k 0], (by rfl), ⟨by omega, ⟨by simp; omega, hI.see (by omega) e1 hzk rfl⟩⟩, (.cons rfl (.cons rfl (.cons rfl (.consB rfl (by first | rfl | assumption | exact decide_eq_true (by assumption) | exact decide_eq_false (by assumption) | (clear hK59 K59; clear hK58 K58; clear hK56 K56; clear hK55 K55; clear hK54 K54; clear hK45 K45; clear hK44 K44; clear hK43 K43; clear hK42 K42; clear hK41 K41; clear hK40 K40; clear hK39 K39; clear hK11 K11; clear hK10 K10; clear hK9 K9; clear hK8 K8; clear hK7 K7; clear hK2 K2; clear hK1 K1; clear hK0 K0;  simp_all)) (.nil (by repeat first | exact Mx.refl | exact Mx.mix | refine Mx.put rfl ?_ | refine Mx.upd rfl ?_ | refine Mx.updl rfl ?_ | refine Mx.fin rfl ?_ | refine Mx.inner rfl ?_ | refine Mx.none ?_)))))), rfl, (by simp)⟩
                                   | exact ⟨n - (k + 1), (by omega), k + 1, true, false, _, _, _, out, (by rfl), ⟨by omega, ⟨by assumption, hI.stuff (by omega) e1 hzk (by simp only [lastAt]; split <;> first | assumption | omega)⟩⟩, (.cons rfl (.cons rfl (.cons rfl (.consB rfl (by first | rfl | assumption | exact decide_eq_true (by assumption) | exact decide_eq_false (by assumption) | (clear hK59 K59; clear hK58 K58; clear hK56 K56; clear hK55 K55; clear hK54 K54; clear hK45 K45; clear hK44 K44; clear hK43 K43; clear hK42 K42; clear hK41 K41; clear hK40 K40; clear hK39 K39; clear hK11 K11; clear hK10 K10; clear hK9 K9; clear hK8 K8; clear hK7 K7; clear hK2 K2; clear hK1 K1; clear hK0 K0;  simp_all)) (.nil (by repeat first | exact Mx.refl | exact Mx.mix | refine Mx.put rfl ?_ | refine Mx.upd rfl ?_ | refine Mx.updl rfl ?_ | refine Mx.fin rfl ?_ | refine Mx.inner rfl ?_ | refine Mx.none ?_)))))), rfl, rfl⟩
                                 )
                              )
                           ·try simp only [decide_eq_true_eq, decide_eq_false_iff_not, Bool.not_eq_true', Bool.not_eq_false', Int.not_lt, Int.not_le, Int.toNat_natCast] at hc16
                            first
                             | (exfalso; clear hK59 K59; clear hK58 K58; clear hK56 K56; clear hK55 K55; clear hK54 K54; clear hK45 K45; clear hK44 K44; clear hK43 K43; clear hK42 K42; clear hK41 K41; clear hK40 K40; clear hK39 K39; clear hK11 K11; clear hK10 K10; clear hK9 K9; clear hK8 K8; clear hK7 K7; clear hK2 K2; clear hK1 K1; clear hK0 K0; first | omega | contradiction)
                             | (
                              refine SW.skip ?_
                              refine hK58 _ _ _ ?_
                              refine SW.region _ _ _ _ ?_
                              refine RL.st ?_
                              refine NV.p T ?_
                              refine RL.st ?_
                              refine NV.p T ?_
                              refine RL.st ?_
                              refine NV.p T ?_
                              refine RL.split 63 rfl (fun hs20 => ?_) (fun hs20 => ?_)
                              ·try simp only [decide_eq_true_eq, decide_eq_false_iff_not, Bool.not_eq_true', Bool.not_eq_false', Int.not_lt, Int.not_le, Int.toNat_natCast] at hs20
                               first
                                | (exfalso; clear hK59 K59; clear hK58 K58; clear hK56 K56; clear hK55 K55; clear hK54 K54; clear hK45 K45; clear hK44 K44; clear hK43 K43; clear hK42 K42; clear hK41 K41; clear hK40 K40; clear hK39 K39; clear hK11 K11; clear hK10 K10; clear hK9 K9; clear hK8 K8; clear hK7 K7; clear hK2 K2; clear hK1 K1; clear hK0 K0; first | omega | contradiction)
                                | (
                                 refine RL.st ?_
                                 refine NV.p T ?_
                                 refine RL.st ?_
                                 refine NV.p T ?_
                                 refine RL.st ?_
                                 refine NV.p T ?_
                                 refine RL.st ?_
                                 refine NV.lv1 T ?_
                                 refine RL.st ?_
                                 refine NV.rem rfl rfl rfl (by omega) rfl ?_
                                 refine RL.st ?_
                                 refine NV.p T ?_
                                 refine RL.st ?_
                                 refine NV.p T ?_
                                 refine RL.st ?_
                                 refine NV.p T ?_
                                 refine RL.nil _ _ _ _ ?_
                                 refine hK41 _ _ _ ?_
                                 refine SW.region _ _ _ _ ?_
                                 refine RL.st ?_
                                 first | refine NV.arith rfl rfl rfl rfl (by omega) (by omega) ?_ | refine NV.p T ?_
                                 refine RL.st ?_
                                 refine NV.p T ?_
                                 refine RL.nil _ _ _ _ ?_
                                 first
                                   | exact ⟨n - (k + 1), (by omega), k + 1, false, decide (((out.length : Int) + 1).tmod ev = 0), _, _, _, out ++ [es.getD k 0], (by rfl), ⟨by omega, ⟨by simp; omega, hI.see (by omega) e1 hzk rfl⟩⟩, (.cons rfl (.cons rfl (.cons rfl (.consB rfl (by first | rfl | assumption | exact decide_eq_true (by assumption) | exact decide_eq_false (by assumption) | (clear hK59 K59; clear hK58 K58; clear hK56 K56; clear hK55 K55; clear hK54 K54; clear hK45 K45; clear hK44 K44; clear hK43 K43; clear hK42 K42; clear hK41 K41; clear hK40 K40; clear hK39 K39; clear hK11 K11; clear hK10 K10; clear hK9 K9; clear hK8 K8; clear hK7 K7; clear hK2 K2; clear hK1 K1; clear hK0 K0;  simp_all)) (.nil (by repeat first | exact Mx.refl | exact Mx.mix | refine Mx.put rfl ?_ | refine Mx.upd rfl ?_ | refine Mx.updl rfl ?_ | refine Mx.fin rfl ?_ | refine Mx.inner rfl ?_ | refine Mx.none ?_)))))), rfl, (by simp)⟩
                                   | exact ⟨n - (k + 1), (by omega), k + 1, true, false, _, _, _, out, (by rfl), ⟨by omega, ⟨by assumption, hI.stuff (by omega) e1 hzk (by simp only [lastAt]; split <;> first | assumption | omega)⟩⟩, (.cons rfl (.cons rfl (.cons rfl (.consB rfl (by first | rfl | assumption | exact decide_eq_true (by assumption) | exact decide_eq_false (by assumption) | (clear hK59 K59; clear hK58 K58; clear hK56 K56; clear hK55 K55; clear hK54 K54; clear hK45 K45; clear hK44 K44; clear hK43 K43; clear hK42 K42; clear hK41 K41; clear hK40 K40; clear hK39 K39; clear hK11 K11; clear hK10 K10; clear hK9 K9; clear hK8 K8; clear hK7 K7; clear hK2 K2; clear hK1 K1; clear hK0 K0;  simp_all)) (.nil (by repeat first | exact Mx.refl | exact Mx.mix | refine Mx.put rfl ?_ | refine Mx.upd rfl ?_ | refine Mx.updl rfl ?_ | refine Mx.fin rfl ?_ | refine Mx.inner rfl ?_ | refine Mx.none ?_)))))), rfl, rfl⟩
                                 )
                              ·try simp only [decide_eq_true_eq, decide_eq_false_iff_not, Bool.not_eq_true', Bool.not_eq_false', Int.not_lt, Int.not_le, Int.toNat_natCast] at hs20
                               first
                                | (exfalso; clear hK59 K59; clear hK58 K58; clear hK56 K56; clear hK55 K55; clear hK54 K54; clear hK45 K45; clear hK44 K44; clear hK43 K43; clear hK42 K42; clear hK41 K41; clear hK40 K40; clear hK39 K39; clear hK11 K11; clear hK10 K10; clear hK9 K9; clear hK8 K8; clear hK7 K7; clear hK2 K2; clear hK1 K1; clear hK0 K0; first | omega | contradiction)
                                | (
                                 refine RL.guard_no rfl rfl rfl ?_
                                 refine RL.guard_no rfl rfl rfl ?_
                                 refine RL.guard_no rfl rfl rfl ?_
                                 refine RL.guard_no rfl rfl rfl ?_
                                 refine RL.guard_no rfl rfl rfl ?_
                                 refine RL.guard_no rfl rfl rfl ?_
                                 refine RL.st ?_
                                 refine NV.p T ?_
                                 refine RL.st ?_
                                 refine NV.p T ?_
                                 refine RL.nil _ _ _ _ ?_
                                 refine hK41 _ _ _ ?_
                                 refine SW.region _ _ _ _ ?_
                                 refine RL.st ?_
                                 first | refine NV.arith rfl rfl rfl rfl (by omega) (by omega) ?_ | refine NV.p T ?_
                                 refine RL.st ?_
                                 refine NV.p T ?_
                                 refine RL.nil _ _ _ _ ?_
                                 first
                                   | exact ⟨n - (k + 1), (by omega), k + 1, false, decide (((out.length : Int) + 1).tmod ev = 0), _, _, _, out ++ [es.getD k 0], (by rfl), ⟨by omega, ⟨by simp; omega, hI.see (by omega) e1 hzk rfl⟩⟩, (.cons rfl (.cons rfl (.cons rfl (.consB rfl (by first | rfl | assumption | exact decide_eq_true (by assumption) | exact decide_eq_false (by assumption) | (clear hK59 K59; clear hK58 K58; clear hK56 K56; clear hK55 K55; clear hK54 K54; clear hK45 K45; clear hK44 K44; clear hK43 K43; clear hK42 K42; clear hK41 K41; clear hK40 K40; clear hK39 K39; clear hK11 K11; clear hK10 K10; clear hK9 K9; clear hK8 K8; clear hK7 K7; clear hK2 K2; clear hK1 K1; clear hK0 K0;  simp_all)) (.nil (by repeat first | exact Mx.refl | exact Mx.mix | refine Mx.put rfl ?_ | refine Mx.upd rfl ?_ | refine Mx.updl rfl ?_ | refine Mx.fin rfl ?_ | refine Mx.inner rfl ?_ | refine Mx.none ?_)))))), rfl, (by simp)⟩
                                   | exact ⟨n - (k + 1), (by omega), k + 1, true, false, _, _, _, out, (by rfl), ⟨by omega, ⟨by assumption, hI.stuff (by omega) e1 hzk (by simp only [lastAt]; split <;> first | assumption | omega)⟩⟩, (.cons rfl (.cons rfl (.cons rfl (.consB rfl (by first | rfl | assumption | exact decide_eq_true (by assumption) | exact decide_eq_false (by assumption) | (clear hK59 K59; clear hK58 K58; clear hK56 K56; clear hK55 K55; clear hK54 K54; clear hK45 K45; clear hK44 K44; clear hK43 K43; clear hK42 K42; clear hK41 K41; clear hK40 K40; clear hK39 K39; clear hK11 K11; clear hK10 K10; clear hK9 K9; clear hK8 K8; clear hK7 K7; clear hK2 K2; clear hK1 K1; clear hK0 K0;  simp_all)) (.nil (by repeat first | exact Mx.refl | exact Mx.mix | refine Mx.put rfl ?_ | refine Mx.upd rfl ?_ | refine Mx.updl rfl ?_ | refine Mx.fin rfl ?_ | refine Mx.inner rfl ?_ | refine Mx.none ?_)))))), rfl, rfl⟩
                                 )
                              )
                           )
                        )
                     ·try simp only [decide_eq_true_eq, decide_eq_false_iff_not, Bool.not_eq_true', Bool.not_eq_false', Int.not_lt, Int.not_le, Int.toNat_natCast] at hs18
                      first
                       | (exfalso; clear hK56 K56; clear hK55 K55; clear hK54 K54; clear hK45 K45; clear hK44 K44; clear hK43 K43; clear hK42 K42; clear hK41 K41; clear hK40 K40; clear hK39 K39; clear hK11 K11; clear hK10 K10; clear hK9 K9; clear hK8 K8; clear hK7 K7; clear hK2 K2; clear hK1 K1; clear hK0 K0; first | omega | contradiction)
                       | (
                        refine RL.guard_no rfl rfl rfl ?_
                        refine RL.guard_no rfl rfl rfl ?_
                        refine RL.guard_no rfl rfl rfl ?_
                        refine RL.st ?_
                        refine NV.p T ?_
                        refine RL.nil _ _ _ _ ?_
                        refine hK56 _ _ _ ?_
                        refine SW.cond_f rfl ?_
                        refine SW.skip ?_
                        refine hK55 _ _ _ ?_
                        refine SW.seq_k ?_
                        intro K60 hK60
                        refine SW.seq_k ?_
                        intro K61 hK61
                        refine SW.region _ _ _ _ ?_
                        refine RL.st ?_
                        refine NV.p T ?_
                        refine RL.st ?_
                        refine NV.p T ?_
                        refine RL.nil _ _ _ _ ?_
                        refine hK61 _ _ _ ?_
                        refine SW.cond rfl (fun hc17 => ?_) (fun hc17 => ?_)
                        ·try simp only [decide_eq_true_eq, decide_eq_false_iff_not, Bool.not_eq_true', Bool.not_eq_false', Int.not_lt, Int.not_le, Int.toNat_natCast] at hc17
                         first
                          | (exfalso; clear hK61 K61; clear hK60 K60; clear hK56 K56; clear hK55 K55; clear hK54 K54; clear hK45 K45; clear hK44 K44; clear hK43 K43; clear hK42 K42; clear hK41 K41; clear hK40 K40; clear hK39 K39; clear hK11 K11; clear hK10 K10; clear hK9 K9; clear hK8 K8; clear hK7 K7; clear hK2 K2; clear hK1 K1; clear hK0 K0; first | omega | contradiction)
                          | (
                           refine SW.region _ _ _ _ ?_
                           refine RL.st ?_
                           refine NV.p T ?_
                           refine RL.st ?_
                           refine NV.p T ?_
                           refine RL.st ?_
                           refine NV.build1 T rfl (by conv => lhs; whnf) rfl rfl (by conv => lhs; whnf) (by exact (rfl : _ = some [_])) ?_
                           intro b59_8
                           refine RL.st ?_
                           first
                             | refine NV.append1 T rfl rfl rfl rfl rfl rfl rfl rfl rfl rfl (by repeat first | exact At.head _ _ | assumption | exact At.put (by assumption) _ | apply At.tail | apply At.app) (ones rfl) (by first | omega | (unfold maxLen; omega)) (by first | omega | (show (_ + _) * 1 ≤ 140737488355328; omega)) ?_
                             | refine NV.append T rfl rfl rfl rfl rfl rfl rfl rfl rfl rfl (by repeat first | exact At.head _ _ | assumption | exact At.put (by assumption) _ | apply At.tail | apply At.app) (by assumption) (ones rfl) (by first | omega | (unfold maxLen; omega)) (by first | omega | (show (_ + _) * 1 ≤ 140737488355328; omega)) ?_
                           intro a7_ c7_
                           refine RL.st ?_
                           refine NV.p T ?_
                           refine RL.nil _ _ _ _ ?_
                           refine hK60 _ _ _ ?_
                           refine SW.region _ _ _ _ ?_
                           refine RL.st ?_
                           refine NV.p T ?_
                           refine RL.st ?_
                           refine NV.p T ?_
                           refine RL.st ?_
                           refine NV.p T ?_
                           refine RL.split 63 rfl (fun hs21 => ?_) (fun hs21 => ?_)
                           ·try simp only [decide_eq_true_eq, decide_eq_false_iff_not, Bool.not_eq_true', Bool.not_eq_false', Int.not_lt, Int.not_le, Int.toNat_natCast] at hs21
                            first
                             | (exfalso; clear hK61 K61; clear hK60 K60; clear hK56 K56; clear hK55 K55; clear hK54 K54; clear hK45 K45; clear hK44 K44; clear hK43 K43; clear hK42 K42; clear hK41 K41; clear hK40 K40; clear hK39 K39; clear hK11 K11; clear hK10 K10; clear hK9 K9; clear hK8 K8; clear hK7 K7; clear hK2 K2; clear hK1 K1; clear hK0 K0; first | omega | contradiction)
                             | (
                              refine RL.st ?_
                              refine NV.p T ?_
                              refine RL.st ?_
                              refine NV.p T ?_
                              refine RL.st ?_
                              refine NV.p T ?_
                              refine RL.st ?_
                              refine NV.lv1 T ?_
                              refine RL.st ?_
                              refine NV.rem rfl rfl rfl (by omega) rfl ?_
                              refine RL.st ?_
                              refine NV.p T ?_
                              refine RL.st ?_
                              refine NV.p T ?_
                              refine RL.st ?_
                              refine NV.p T ?_
                              refine RL.nil _ _ _ _ ?_
                              refine hK41 _ _ _ ?_
                              refine SW.region _ _ _ _ ?_
                              refine RL.st ?_
                              first | refine NV.arith rfl rfl rfl rfl (by omega) (by omega) ?_ | refine NV.p T ?_
                              refine RL.st ?_
                              refine NV.p T ?_
                              refine RL.nil _ _ _ _ ?_
                              first
                                | exact ⟨n - (k + 1), (by omega), k + 1, false, decide (((out.length : Int) + 1).tmod ev = 0), _, _, _, out ++ [es.getD k 0], (by rfl), ⟨by omega, ⟨by simp; omega, hI.see (by omega) e1 hzk rfl⟩⟩, (.cons rfl (.cons rfl (.cons rfl (.consB rfl (by first | rfl | assumption | exact decide_eq_true (by assumption) | exact decide_eq_false (by assumption) | (clear hK61 K61; clear hK60 K60; clear hK56 K56; clear hK55 K55; clear hK54 K54; clear hK45 K45; clear hK44 K44; clear hK43 K43; clear hK42 K42; clear hK41 K41; clear hK40 K40; clear hK39 K39; clear hK11 K11; clear hK10 K10; clear hK9 K9; clear hK8 K8; clear hK7 K7; clear hK2 K2; clear hK1 K1; clear hK0 K0;  simp_all)) (.nil (by repeat first | exact Mx.refl | exact Mx.mix | refine Mx.put rfl ?_ | refine Mx.upd rfl ?_ | refine Mx.updl rfl ?_ | refine Mx.fin rfl ?_ | refine Mx.inner rfl ?_ | refine Mx.none ?_)))))), rfl, (by simp)⟩
                                | exact ⟨n - (k + 1), (by omega), k + 1, true, false, _, _, _, out, (by rfl), ⟨by omega, ⟨by assumption, hI.stuff (by omega) e1 hzk (by simp only [lastAt]; split <;> first | assumption | omega)⟩⟩, (.cons rfl (.cons rfl (.cons rfl (.consB rfl (by first | rfl | assumption | exact decide_eq_true (by assumption) | exact decide_eq_false (by assumption) | (clear hK61 K61; clear hK60 K60; clear hK56 K56; clear hK55 K55; clear hK54 K54; clear hK45 K45; clear hK44 K44; clear hK43 K43; clear hK42 K42; clear hK41 K41; clear hK40 K40; clear hK39 K39; clear hK11 K11; clear hK10 K10; clear hK9 K9; clear hK8 K8; clear hK7 K7; clear hK2 K2; clear hK1 K1; clear hK0 K0;  simp_all)) (.nil (by repeat first | exact Mx.refl | exact Mx.mix | refine Mx.put rfl ?_ | refine Mx.upd rfl ?_ | refine Mx.updl rfl ?_ | refine Mx.fin rfl ?_ | refine Mx.inner rfl ?_ | refine Mx.none ?_)))))), rfl, rfl⟩
                              )
                           ·try simp only [decide_eq_true_eq, decide_eq_false_iff_not, Bool.not_eq_true', Bool.not_eq_false', Int.not_lt, Int.not_le, Int.toNat_natCast] at hs21
                            first
                             | (exfalso; clear hK61 K61; clear hK60 K60; clear hK56 K56; clear hK55 K55; clear hK54 K54; clear hK45 K45; clear hK44 K44; clear hK43 K43; clear hK42 K42; clear hK41 K41; clear hK40 K40; clear hK39 K39; clear hK11 K11; clear hK10 K10; clear hK9 K9; clear hK8 K8; clear hK7 K7; clear hK2 K2; clear hK1 K1; clear hK0 K0; first | omega | contradiction)
                             | (
                              refine RL.guard_no rfl rfl rfl ?_
                              refine RL.guard_no rfl rfl rfl ?_
                              refine RL.guard_no rfl rfl rfl ?_
                              refine RL.guard_no rfl rfl rfl ?_
                              refine RL.guard_no rfl rfl rfl ?_
                              refine RL.guard_no rfl rfl rfl ?_
                              refine RL.st ?_
                              refine NV.p T ?_
                              refine RL.st ?_
                              refine NV.p T ?_
                              refine RL.nil _ _ _ _ ?_
                              refine hK41 _ _ _ ?_
                              refine SW.region _ _ _ _ ?_
                              refine RL.st ?_
                              first | refine NV.arith rfl rfl rfl rfl (by omega) (by omega) ?_ | refine NV.p T ?_
                              refine RL.st ?_
                              refine NV.p T ?_
                              refine RL.nil _ _ _ _ ?_
                              first
                                | exact ⟨n - (k + 1), (by omega), k + 1, false, decide (((out.length : Int) + 1).tmod ev = 0), _, _, _, out ++ [es.getD k 0], (by rfl), ⟨by omega, ⟨by simp; omega, hI.see (by omega) e1 hzk rfl⟩⟩, (.cons rfl (.cons rfl (.cons rfl (.consB rfl (by first | rfl | assumption | exact decide_eq_true (by assumption) | exact decide_eq_false (by assumption) | (clear hK61 K61; clear hK60 K60; clear hK56 K56; clear hK55 K55; clear hK54 K54; clear hK45 K45; clear hK44 K44; clear hK43 K43; clear hK42 K42; clear hK41 K41; clear hK40 K40; clear hK39 K39; clear hK11 K11; clear hK10 K10; clear hK9 K9; clear hK8 K8; clear hK7 K7; clear hK2 K2; clear hK1 K1; clear hK0 K0;  simp_all)) (.nil (by repeat first | exact Mx.refl | exact Mx.mix | refine Mx.put rfl ?_ | refine Mx.upd rfl ?_ | refine Mx.updl rfl ?_ | refine Mx.fin rfl ?_ | refine Mx.inner rfl ?_ | refine Mx.none ?_)))))), rfl, (by simp)⟩
                                | exact ⟨n - (k + 1), (by omega), k + 1, true, false, _, _, _, out, (by rfl), ⟨by omega, ⟨by assumption, hI.stuff (by omega) e1 hzk (by simp only [lastAt]; split <;> first | assumption | omega)⟩⟩, (.cons rfl (.cons rfl (.cons rfl (.consB rfl (by first | rfl | assumption | exact decide_eq_true (by assumption) | exact decide_eq_false (by assumption) | (clear hK61 K61; clear hK60 K60; clear hK56 K56; clear hK55 K55; clear hK54 K54; clear hK45 K45; clear hK44 K44; clear hK43 K43; clear hK42 K42; clear hK41 K41; clear hK40 K40; clear hK39 K39; clear hK11 K11; clear hK10 K10; clear hK9 K9; clear hK8 K8; clear hK7 K7; clear hK2 K2; clear hK1 K1; clear hK0 K0;  simp_all)) (.nil (by repeat first | exact Mx.refl | exact Mx.mix | refine Mx.put rfl ?_ | refine Mx.upd rfl ?_ | refine Mx.updl rfl ?_ | refine Mx.fin rfl ?_ | refine Mx.inner rfl ?_ | refine Mx.none ?_)))))), rfl, rfl⟩
                              )
                           )
                        ·try simp only [decide_eq_true_eq, decide_eq_false_iff_not, Bool.not_eq_true', Bool.not_eq_false', Int.not_lt, Int.not_le, Int.toNat_natCast] at hc17
                         first
                          | (exfalso; clear hK61 K61; clear hK60 K60; clear hK56 K56; clear hK55 K55; clear hK54 K54; clear hK45 K45; clear hK44 K44; clear hK43 K43; clear hK42 K42; clear hK41 K41; clear hK40 K40; clear hK39 K39; clear hK11 K11; clear hK10 K10; clear hK9 K9; clear hK8 K8; clear hK7 K7; clear hK2 K2; clear hK1 K1; clear hK0 K0; first | omega | contradiction)
                          | (
                           refine SW.skip ?_
                           refine hK60 _ _ _ ?_
                           refine SW.region _ _ _ _ ?_
                           refine RL.st ?_
                           refine NV.p T ?_
                           refine RL.st ?_
                           refine NV.p T ?_
                           refine RL.st ?_
                           refine NV.p T ?_
                           refine RL.split 63 rfl (fun hs22 => ?_) (fun hs22 => ?_)
                           ·try simp only [decide_eq_true_eq, decide_eq_false_iff_not, Bool.not_eq_true', Bool.not_eq_false', Int.not_lt, Int.not_le, Int.toNat_natCast] at hs22
                            first
                             | (exfalso; clear hK61 K61; clear hK60 K60; clear hK56 K56; clear hK55 K55; clear hK54 K54; clear hK45 K45; clear hK44 K44; clear hK43 K43; clear hK42 K42; clear hK41 K41; clear hK40 K40; clear hK39 K39; clear hK11 K11; clear hK10 K10; clear hK9 K9; clear hK8 K8; clear hK7 K7; clear hK2 K2; clear hK1 K1; clear hK0 K0; first | omega | contradiction)
                             | (
                              refine RL.st ?_
                              refine NV.p T ?_
                              refine RL.st ?_
                              refine NV.p T ?_
                              refine RL.st ?_
                              refine NV.p T ?_
                              refine RL.st ?_
                              refine NV.lv1 T ?_
                              refine RL.st ?_
                              refine NV.rem rfl rfl rfl (by omega) rfl ?_
                              refine RL.st ?_
                              refine NV.p T ?_
                              refine RL.st ?_
                              refine NV.p T ?_
                              refine RL.st ?_
                              refine NV.p T ?_
                              refine RL.nil _ _ _ _ ?_
                              refine hK41 _ _ _ ?_
                              refine SW.region _ _ _ _ ?_
                              refine RL.st ?_
                              first | refine NV.arith rfl rfl rfl rfl (by omega) (by omega) ?_ | refine NV.p T ?_
                              refine RL.st ?_
                              refine NV.p T ?_
                              refine RL.nil _ _ _ _ ?_
                              first
                                | exact ⟨n - (k + 1), (by omega), k + 1, false, decide (((out.length : Int) + 1).tmod ev = 0), _, _, _, out ++ [es.getD k 0], (by rfl), ⟨by omega, ⟨by simp; omega, hI.see (by omega) e1 hzk rfl⟩⟩, (.cons rfl (.cons rfl (.cons rfl (.consB rfl (by first | rfl | assumption | exact decide_eq_true (by assumption) | exact decide_eq_false (by assumption) | (clear hK61 K61; clear hK60 K60; clear hK56 K56; clear hK55 K55; clear hK54 K54; clear hK45 K45; clear hK44 K44; clear hK43 K43; clear hK42 K42; clear hK41 K41; clear hK40 K40; clear hK39 K39; clear hK11 K11; clear hK10 K10; clear hK9 K9; clear hK8 K8; clear hK7 K7; clear hK2 K2; clear hK1 K1; clear hK0 K0;  simp_all)) (.nil (by repeat first | exact Mx.refl | exact Mx.mix | refine Mx.put rfl ?_ | refine Mx.upd rfl ?_ | refine Mx.updl rfl ?_ | refine Mx.fin rfl ?_ | refine Mx.inner rfl ?_ | refine Mx.none ?_)))))), rfl, (by simp)⟩
                                | exact ⟨n - (k + 1), (by omega), k + 1, true, false, _, _, _, out, (by rfl), ⟨by omega, ⟨by assumption, hI.stuff (by omega) e1 hzk (by simp only [lastAt]; split <;> first | assumption | omega)⟩⟩, (.cons rfl (.cons rfl (.cons rfl (.consB rfl (by first | rfl | assumption | exact decide_eq_true (by assumption) | exact decide_eq_false (by assumption) | (clear hK61 K61; clear hK60 K60; clear hK56 K56; clear hK55 K55; clear hK54 K54; clear hK45 K45; clear hK44 K44; clear hK43 K43; clear hK42 K42; clear hK41 K41; clear hK40 K40; clear hK39 K39; clear hK11 K11; clear hK10 K10; clear hK9 K9; clear hK8 K8; clear hK7 K7; clear hK2 K2; clear hK1 K1; clear hK0 K0;  simp_all)) (.nil (by repeat first | exact Mx.refl | exact Mx.mix | refine Mx.put rfl ?_ | refine Mx.upd rfl ?_ | refine Mx.updl rfl ?_ | refine Mx.fin rfl ?_ | refine Mx.inner rfl ?_ | refine Mx.none ?_)))))), rfl, rfl⟩
                              )
                           ·try simp only [decide_eq_true_eq, decide_eq_false_iff_not, Bool.not_eq_true', Bool.not_eq_false', Int.not_lt, Int.not_le, Int.toNat_natCast] at hs22
                            first
                             | (exfalso; clear hK61 K61; clear hK60 K60; clear hK56 K56; clear hK55 K55; clear hK54 K54; clear hK45 K45; clear hK44 K44; clear hK43 K43; clear hK42 K42; clear hK41 K41; clear hK40 K40; clear hK39 K39; clear hK11 K11; clear hK10 K10; clear hK9 K9; clear hK8 K8; clear hK7 K7; clear hK2 K2; clear hK1 K1; clear hK0 K0; first | omega | contradiction)
                             | (
                              refine RL.guard_no rfl rfl rfl ?_
                              refine RL.guard_no rfl rfl rfl ?_
                              refine RL.guard_no rfl rfl rfl ?_
                              refine RL.guard_no rfl rfl rfl ?_
                              refine RL.guard_no rfl rfl rfl ?_
                              refine RL.guard_no rfl rfl rfl ?_
                              refine RL.st ?_
                              refine NV.p T ?_
                              refine RL.st ?_
                              refine NV.p T ?_
                              refine RL.nil _ _ _ _ ?_
                              refine hK41 _ _ _ ?_
                              refine SW.region _ _ _ _ ?_
                              refine RL.st ?_
                              first | refine NV.arith rfl rfl rfl rfl (by omega) (by omega) ?_ | refine NV.p T ?_
                              refine RL.st ?_
                              refine NV.p T ?_
                              refine RL.nil _ _ _ _ ?_
                              first
                                | exact ⟨n - (k + 1), (by omega), k + 1, false, decide (((out.length : Int) + 1).tmod ev = 0), _, _, _, out ++ [es.getD k 0], (by rfl), ⟨by omega, ⟨by simp; omega, hI.see (by omega) e1 hzk rfl⟩⟩, (.cons rfl (.cons rfl (.cons rfl (.consB rfl (by first | rfl | assumption | exact decide_eq_true (by assumption) | exact decide_eq_false (by assumption) | (clear hK61 K61; clear hK60 K60; clear hK56 K56; clear hK55 K55; clear hK54 K54; clear hK45 K45; clear hK44 K44; clear hK43 K43; clear hK42 K42; clear hK41 K41; clear hK40 K40; clear hK39 K39; clear hK11 K11; clear hK10 K10; clear hK9 K9; clear hK8 K8; clear hK7 K7; clear hK2 K2; clear hK1 K1; clear hK0 K0;  simp_all)) (.nil (by repeat first | exact Mx.refl | exact Mx.mix | refine Mx.put rfl ?_ | refine Mx.upd rfl ?_ | refine Mx.updl rfl ?_ | refine Mx.fin rfl ?_ | refine Mx.inner rfl ?_ | refine Mx.none ?_)))))), rfl, (by simp)⟩
                                | exact ⟨n - (k + 1), (by omega), k + 1, true, false, _, _, _, out, (by rfl), ⟨by omega, ⟨by assumption, hI.stuff (by omega) e1 hzk (by simp only [lastAt]; split <;> first | assumption | omega)⟩⟩, (.cons rfl (.cons rfl (.cons rfl (.consB rfl (by first | rfl | assumption | exact decide_eq_true (by assumption) | exact decide_eq_false (by assumption) | (clear hK61 K61; clear hK60 K60; clear hK56 K56; clear hK55 K55; clear hK54 K54; clear hK45 K45; clear hK44 K44; clear hK43 K43; clear hK42 K42; clear hK41 K41; clear hK40 K40; clear hK39 K39; clear hK11 K11; clear hK10 K10; clear hK9 K9; clear hK8 K8; clear hK7 K7; clear hK2 K2; clear hK1 K1; clear hK0 K0;  simp_all)) (.nil (by repeat first | exact Mx.refl | exact Mx.mix | refine Mx.put rfl ?_ | refine Mx.upd rfl ?_ | refine Mx.updl rfl ?_ | refine Mx.fin rfl ?_ | refine Mx.inner rfl ?_ | refine Mx.none ?_)))))), rfl, rfl⟩
                              )
                           )
                        )
                     )
                  )
               ·try simp only [decide_eq_true_eq, decide_eq_false_iff_not, Bool.not_eq_true', Bool.not_eq_false', Int.not_lt, Int.not_le, Int.toNat_natCast] at hc10
                first
                 | (exfalso; clear hK40 K40; clear hK39 K39; clear hK11 K11; clear hK10 K10; clear hK9 K9; clear hK8 K8; clear hK7 K7; clear hK2 K2; clear hK1 K1; clear hK0 K0; first | omega | contradiction)
                 | (
                  refine SW.exit ?_
                  refine hK10 _ _ _ ?_
                  refine SW.seq_k ?_
                  intro K62 hK62
                  refine SW.seq_k ?_
                  intro K63 hK63
                  refine SW.region _ _ _ _ ?_
                  refine RL.st ?_
                  refine NV.p T ?_
                  refine RL.nil _ _ _ _ ?_
                  refine hK63 _ _ _ ?_
                  refine SW.cond rfl (fun hc18 => ?_) (fun hc18 => ?_)
                  ·try simp only [decide_eq_true_eq, decide_eq_false_iff_not, Bool.not_eq_true', Bool.not_eq_false', Int.not_lt, Int.not_le, Int.toNat_natCast] at hc18
                   first
                    | (exfalso; clear hK63 K63; clear hK62 K62; clear hK40 K40; clear hK39 K39; clear hK11 K11; clear hK10 K10; clear hK9 K9; clear hK8 K8; clear hK7 K7; clear hK2 K2; clear hK1 K1; clear hK0 K0; first | omega | contradiction)
                    | (
                     refine SW.seq_k ?_
                     intro K64 hK64
                     refine SW.region _ _ _ _ ?_
                     refine RL.st ?_
                     refine NV.p T ?_
                     refine RL.st ?_
                     refine NV.p T ?_
                     refine RL.nil _ _ _ _ ?_
                     refine hK64 _ _ _ ?_
                     refine SW.sat (fun hs => ?_)
                     refine SW.ret ?_
                     refine retQ.ret (RVs.tmp (by conv => lhs; whnf) (RVs.tmp (by conv => lhs; whnf) RVs.nil)) (fun w hw => hw) ?_
                     clear hK64 K64 hK63 K63 hK62 K62 hK40 K40 hK39 K39 hK11 K11 hK10 K10 hK9 K9 hK8 K8 hK7 K7 hK2 K2 hK1 K1 hK0 K0
                     first
                       | (rw [getV_none hf (hI.gi.bad (by omega) rfl (by simp only [lastAt]; split <;> first | assumption | omega))]; exact ⟨_, rfl, none, 0, 0, rfl, rfl, Rd.nilS, [_, _], rfl⟩)
                       | (rw [getV_more hf ((show d = true by assumption) ▸ hI.gi.done (by omega))]; exact ⟨_, rfl, none, 0, 0, rfl, rfl, Rd.nilS, [_, _], rfl⟩)
                       | (rw [getV_ok hf ((show d = false by assumption) ▸ hI.gi.done (by omega))]; exact ⟨_, rfl, Res.row hs (At.head _ _) (G := [_, _]) rfl⟩)
                     )
                  ·try simp only [decide_eq_true_eq, decide_eq_false_iff_not, Bool.not_eq_true', Bool.not_eq_false', Int.not_lt, Int.not_le, Int.toNat_natCast] at hc18
                   first
                    | (exfalso; clear hK63 K63; clear hK62 K62; clear hK40 K40; clear hK39 K39; clear hK11 K11; clear hK10 K10; clear hK9 K9; clear hK8 K8; clear hK7 K7; clear hK2 K2; clear hK1 K1; clear hK0 K0; first | omega | contradiction)
                    | (
                     refine SW.skip ?_
                     refine hK62 _ _ _ ?_
                     refine SW.seq_k ?_
                     intro K65 hK65
                     refine SW.region _ _ _ _ ?_
                     refine RL.st ?_
                     refine NV.p T ?_
                     refine RL.st ?_
                     refine NV.p T ?_
                     refine RL.st ?_
                     refine NV.p T ?_
                     refine RL.nil _ _ _ _ ?_
                     refine hK65 _ _ _ ?_
                     refine SW.sat (fun hs => ?_)
                     refine SW.ret ?_
                     refine retQ.ret (RVs.tmp (by conv => lhs; whnf) (RVs.tmp (by conv => lhs; whnf) RVs.nil)) (fun w hw => hw) ?_
                     clear hK65 K65 hK63 K63 hK62 K62 hK40 K40 hK39 K39 hK11 K11 hK10 K10 hK9 K9 hK8 K8 hK7 K7 hK2 K2 hK1 K1 hK0 K0
                     first
                       | (rw [getV_none hf (hI.gi.bad (by omega) rfl (by simp only [lastAt]; split <;> first | assumption | omega))]; exact ⟨_, rfl, none, 0, 0, rfl, rfl, Rd.nilS, [_, _], rfl⟩)
                       | (rw [getV_more hf ((show d = true by assumption) ▸ hI.gi.done (by omega))]; exact ⟨_, rfl, none, 0, 0, rfl, rfl, Rd.nilS, [_, _], rfl⟩)
                       | (rw [getV_ok hf ((show d = false by assumption) ▸ hI.gi.done (by omega))]; exact ⟨_, rfl, Res.row hs (At.head _ _) (G := [_, _]) rfl⟩)
                     )
                  )
             )
          )
       )
    )
theorem rget {w0 : World} {H : List Chunk} (prev ev : Int) (ah : Bool) (sa : Option Addr) (n c : Nat) (es : List Int) (hR : Rd w0 H sa n c 1 (es.map (.int .u8))) (hn : n = es.length) (hm : n ≤ 140737488351232) (p0 : 0 ≤ prev) (hb : Byte es) : SC Try.prog w0 16 #[.int .u8 prev, .slice sa n c, .agg #[.int .i64 ev, .bool ah]] H (fun v H' => RV w0 H (getV prev es ev ah).1 (getV prev es ev ah).2 v H') := by
  cases hf : fck prev es ev with
  | false => 
    rw [getV_bad hf]
    refine (rget_bad prev ev ah sa n c es hR hn hm ?_).mono (by rintro _ _ ⟨rfl, rfl⟩; exact ⟨_, rfl, Res.nil⟩)
    by_cases h1 : prev ≤ 1 ∧ chk es = 0 ∧ 1 ≤ ev ∧ ev ≤ 64
    · rw [fck_iff.2 h1] at hf; cases hf
    · omega
  | true =>
    have hi := fck_iff.1 hf
    exact rget_ok prev ev ah sa n c es hR hn hm hf hi.2.2.1 hi.2.2.2 p0 hi.1 (bit_of hb (chk_zero.1 hi.2.1).2) hi.2.1
theorem fget {w0 : World} {H : List Chunk} (prev ev : Int) (ah : Bool) (sa : Option Addr) (n c : Nat) (es : List Int) (hR : Rd w0 H sa n c 1 (es.map (.int .u8))) (hn : n = es.length) (hm : n ≤ 140737488351232) (p0 : 0 ≤ prev) (hb : Byte es) : SC Try.prog w0 15 #[.int .u8 prev, .slice sa n c, .agg #[.int .i64 ev, .bool ah]] H (fun v H' => RV w0 H (getV prev es ev ah).1 (getV prev es ev ah).2 v H') := by
  cases hf : fck prev es ev with
  | false => rw [getV_bad hf]; exact (fget_bad prev ev ah sa n c es hR hn hm hf).mono (by rintro _ _ ⟨rfl, rfl⟩; exact ⟨_, rfl, Res.nil⟩)
  | true =>
    have hi := fck_iff.1 hf
    exact fget_ok prev ev ah sa n c es hR hn hm hf hi.2.2.1 hi.2.2.2 p0 hi.1 (bit_of hb (chk_zero.1 hi.2.1).2)
end Go.Proofs.Ytdcahmifalabnaa.M
