import Derived.Test.YtgdnanfnmaafoaaProg
import Derived.Test.YtgdnanfnmaafoaaFE15
set_option linter.unusedVariables false
set_option linter.unusedSimpArgs false
namespace Go.Proofs.Ytgdnanfnmaafoaa.M
open Go Go.Sep Go.Proofs
set_option maxRecDepth 10000
set_option maxHeartbeats 2000000
theorem filterAdds {w0 : World} {H : List Chunk} (rs : List Rul) (sr : Option Addr) (nr cr : Nat) (hB : ∀ H, Rd w0 H sr nr cr 10 (rs.flatMap RuC)) (hnr : nr = rs.length) (hmr : nr ≤ 4398046511000) (hrs : ∀ k, RuOk (rs.getD k default)) (d : Bool) (q : Rul) (hq : RuOk q) (f : Frm) (sa : Option Addr) (n c : Nat) (hR : ∀ H, Rd w0 H sa n c 1 (f.data.map (.int .u8))) (hn : n = f.data.length) (hm : n ≤ 140737488351232) (hf : FrOk f) : SC Try.prog w0 6 #[.agg #[.slice sr nr cr, .bool d], RuA q, FA f sa n c] H (fun v H' => v = .bool true ∧ H' = H) := by
 refine SC.enter Try.func6 rfl (Nat.le_of_ble_eq_true rfl) ?_
 refine SW.seq_k fun K0 hK0 => ?_
 refine SW.region _ _ _ _ ?_
 refine RL.s ?_
 refine NV.box rfl (by exact (rfl : _ = [_, _])) ?_
 intro b3_0
 refine RL.s ?_
 refine NV.box rfl (by exact (rfl : _ = [_, _, _, _, _, _, _, _, _, _])) ?_
 intro b4_1
 refine RL.s ?_
 refine NV.box rfl (by exact (rfl : _ = [_, _, _, _, _, _, _, _, _, _, _])) ?_
 intro b5_2
 refine RL.p T ?_
 refine RL.nil _ _ _ _ ?_
 refine hK0 _ _ _ ?_
 refine SW.seq_k fun K1 hK1 => ?_
 refine SW.seq_k fun K2 hK2 => ?_
 refine SW.region _ _ _ _ ?_
 refine RL.c fun9 (fun hs => alive) ?_
 rintro _ _ ⟨rfl, e⟩; obtain rfl := e.symm
 refine RL.p T ?_
 refine RL.nil _ _ _ _ ?_
 refine hK2 _ _ _ ?_
 refine SW.cs (fun hc0 => ?_) (fun hc0 => ?_)
 ·skip
  first
   | (exfalso; first | omega | contradiction | (simp at *; done))
   | (
    refine SW.seq_k fun K3 hK3 => ?_
    refine SW.region _ _ _ _ ?_
    refine RL.p T ?_
    refine RL.nil _ _ _ _ ?_
    refine hK3 _ _ _ ?_
    refine SW.ret ?_
    refine retQ.rr (H) ?_
    clear hK3 K3 hK2 K2 hK1 K1 hK0 K0
    first
      | exact ⟨rfl, rfl⟩
      | (have g1 : chkB (rs ++ [q]) = 0 := by omega
         have g2 : chkF f = 0 := by omega
         have z1 := in_zero (d := d) g1 g2
         have z2 := in_zero (d := d) (chkB_app g1).1 g2
         exfalso; omega)
      | (have g1 : chkB (rs ++ [q]) = 0 := by omega
         have g2 : chkF f = 0 := by omega
         obtain ⟨e1, e2⟩ := adds_hit (d := d) g1 g2 (by omega)
         refine ⟨boolE ?_, rfl⟩
         rw [e1, e2]
         simp; omega)
      | (have g1 : chkB (rs ++ [q]) = 0 := by omega
         have g2 : chkF f = 0 := by omega
         obtain ⟨e1, e2⟩ := adds_new (d := d) g1 g2 (by omega) (by assumption)
         refine ⟨boolE ?_, rfl⟩
         rw [e1, e2]
         simp; omega)
      | (have g1 : chkB (rs ++ [q]) = 0 := by omega
         have g2 : chkF f = 0 := by omega
         obtain ⟨e1, e2, e3⟩ := adds_none (d := d) g1 g2 (by omega) (by assumption)
         refine ⟨boolE ?_, rfl⟩
         rw [e1, e2, e3]
         simp)
    )
 ·skip
  first
   | (exfalso; first | omega | contradiction | (simp at *; done))
   | (
    refine SW.skip ?_
    refine hK1 _ _ _ ?_
    refine SW.seq_k fun K4 hK4 => ?_
    refine SW.draw [(20, 0), (21, 1), (22, 2), (7, 3), (8, 4)] [[], [0], [], [], [], [3, 1, 0, 4], [4, 2, 5, 3, 1, 0]] mixed (by kernel_rfl) (by kernel_rfl) ?_
    refine RD.q rfl rfl (Gd.none rfl) (by first | exact QV.load_var1 T rfl rfl rfl rfl (by repeat first | exact At.head _ _ | assumption | exact At.put (by assumption) _ | apply At.tail | apply At.app) rfl | exact QV.load_varN T rfl rfl rfl rfl rfl (by repeat first | exact At.head _ _ | assumption | exact At.put (by assumption) _ | apply At.tail | apply At.app) (by exact (rfl : _ = [_, _])) rfl | exact QV.load_elem T rfl rfl rfl rfl (by assumption) (by first | exact map_get _ _ (by omega) | assumption)) ?_
    refine RD.q rfl rfl (Gd.none rfl) (by first | exact QV.load_var1 T rfl rfl rfl rfl (by repeat first | exact At.head _ _ | assumption | exact At.put (by assumption) _ | apply At.tail | apply At.app) rfl | exact QV.load_varN T rfl rfl rfl rfl rfl (by repeat first | exact At.head _ _ | assumption | exact At.put (by assumption) _ | apply At.tail | apply At.app) (by exact (rfl : _ = [_, _, _, _, _, _, _, _, _, _])) rfl | exact QV.load_elem T rfl rfl rfl rfl (by assumption) (by first | exact map_get _ _ (by omega) | assumption)) ?_
    apply RD.shareP (β := Option Addr)
    ·intro hsh0
     refine RD.many rfl rfl (.cons ?_ (.cons ?_ (.cons ?_ .nil)))
     ·skip
      refine RD1.nv rfl (Gd.none rfl) ?_
      refine NV.call rfl rfl rfl fun12 rfl rfl (bto rs sr nr cr (hB _) hnr hmr hrs d) ?_
      rintro _ _ ⟨a1, c1, rfl, e⟩; obtain rfl := e.symm
      refine ⟨(Stab.cons rfl (Gd.none rfl) (by first | exact QV.load_var1 T rfl rfl rfl rfl (by repeat first | exact At.head _ _ | assumption | exact At.put (by assumption) _ | apply At.tail | apply At.app) rfl | exact QV.load_varN T rfl rfl rfl rfl rfl (by repeat first | exact At.head _ _ | assumption | exact At.put (by assumption) _ | apply At.tail | apply At.app) rfl rfl | exact QV.load_elem T rfl rfl rfl rfl (by assumption) (by first | exact map_get _ _ (by omega) | assumption)) Stab.nil), ?_⟩
      refine RD.many rfl rfl (.cons ?_ (.cons ?_ .nil))
      ·skip
       refine RD1.nv rfl (Gd.none rfl) ?_
       refine NV.alloc T rfl rfl rfl (by exact (rfl : _ = [_, _])) ?_
       intro b7_3
       refine ⟨(Stab.cons rfl (Gd.none rfl) (by first | exact QV.load_var1 T rfl rfl rfl rfl (by repeat first | exact At.head _ _ | assumption | exact At.put (by assumption) _ | apply At.tail | apply At.app) rfl | exact QV.load_varN T rfl rfl rfl rfl rfl (by repeat first | exact At.head _ _ | assumption | exact At.put (by assumption) _ | apply At.tail | apply At.app) rfl rfl | exact QV.load_elem T rfl rfl rfl rfl (by assumption) (by first | exact map_get _ _ (by omega) | assumption)) (Stab.cons rfl (Gd.none rfl) (by first | exact QV.load_var1 T rfl rfl rfl rfl (by repeat first | exact At.head _ _ | assumption | exact At.put (by assumption) _ | apply At.tail | apply At.app) rfl | exact QV.load_varN T rfl rfl rfl rfl rfl (by repeat first | exact At.head _ _ | assumption | exact At.put (by assumption) _ | apply At.tail | apply At.app) rfl rfl | exact QV.load_elem T rfl rfl rfl rfl (by assumption) (by first | exact map_get _ _ (by omega) | assumption)) Stab.nil)), ?_⟩
       refine RD.nv rfl rfl rfl (Gd.none rfl) ?_
       refine NV.alloc T rfl rfl rfl (by exact (rfl : _ = [_, _, _, _, _, _, _, _, _, _])) ?_
       intro b8_4
       refine ⟨(Stab.cons rfl (Gd.none rfl) (by first | exact QV.load_var1 T rfl rfl rfl rfl (by repeat first | exact At.head _ _ | assumption | exact At.put (by assumption) _ | apply At.tail | apply At.app) rfl | exact QV.load_varN T rfl rfl rfl rfl rfl (by repeat first | exact At.head _ _ | assumption | exact At.put (by assumption) _ | apply At.tail | apply At.app) rfl rfl | exact QV.load_elem T rfl rfl rfl rfl (by assumption) (by first | exact map_get _ _ (by omega) | assumption)) (Stab.cons rfl (Gd.none rfl) (by first | exact QV.load_var1 T rfl rfl rfl rfl (by repeat first | exact At.head _ _ | assumption | exact At.put (by assumption) _ | apply At.tail | apply At.app) rfl | exact QV.load_varN T rfl rfl rfl rfl rfl (by repeat first | exact At.head _ _ | assumption | exact At.put (by assumption) _ | apply At.tail | apply At.app) rfl rfl | exact QV.load_elem T rfl rfl rfl rfl (by assumption) (by first | exact map_get _ _ (by omega) | assumption)) Stab.nil)), ?_⟩
       refine RD.nv rfl rfl rfl (Gd.none rfl) ?_
       first
         | refine NV.store_var1 T rfl rfl rfl rfl (by conv => lhs; whnf) rfl (by repeat first | exact At.head _ _ | assumption | exact At.put (by assumption) _ | apply At.tail | apply At.app) rfl (by exact (rfl : _ = [_, _])) ?_
         | refine NV.store_var T rfl rfl rfl (by exact (rfl : _ = [_, _])) rfl rfl (by repeat first | exact At.head _ _ | assumption | exact At.put (by assumption) _ | apply At.tail | apply At.app) (Nat.le_of_ble_eq_true rfl) (by exact (rfl : _ = [_, _])) ?_
         | refine NV.store_elem T rfl rfl rfl rfl (by conv => lhs; whnf) rfl (by repeat first | exact At.head _ _ | assumption | exact At.put (by assumption) _ | apply At.tail | apply At.app) (by omega) ?_
       refine ⟨(Stab.cons rfl (Gd.none rfl) (by first | exact QV.load_var1 T rfl rfl rfl rfl (by repeat first | exact At.head _ _ | assumption | exact At.put (by assumption) _ | apply At.tail | apply At.app) rfl | exact QV.load_varN T rfl rfl rfl rfl rfl (by repeat first | exact At.head _ _ | assumption | exact At.put (by assumption) _ | apply At.tail | apply At.app) rfl rfl | exact QV.load_elem T rfl rfl rfl rfl (by assumption) (by first | exact map_get _ _ (by omega) | assumption)) Stab.nil), ?_⟩
       refine RD.nv rfl rfl rfl (Gd.none rfl) ?_
       first
         | refine NV.store_var1 T rfl rfl rfl rfl (by conv => lhs; whnf) rfl (by repeat first | exact At.head _ _ | assumption | exact At.put (by assumption) _ | apply At.tail | apply At.app) rfl (by exact (rfl : _ = [_, _, _, _, _, _, _, _, _, _])) ?_
         | refine NV.store_var T rfl rfl rfl (by exact (rfl : _ = [_, _, _, _, _, _, _, _, _, _])) rfl rfl (by repeat first | exact At.head _ _ | assumption | exact At.put (by assumption) _ | apply At.tail | apply At.app) (Nat.le_of_ble_eq_true rfl) (by exact (rfl : _ = [_, _, _, _, _, _, _, _, _, _])) ?_
         | refine NV.store_elem T rfl rfl rfl rfl (by conv => lhs; whnf) rfl (by repeat first | exact At.head _ _ | assumption | exact At.put (by assumption) _ | apply At.tail | apply At.app) (by omega) ?_
       refine ⟨Stab.nil, ?_⟩
       refine RD.k rfl rfl ?_
       exact hsh0 a1 c1 b7_3 b8_4 _ (by first | exact .refl _ | exact .swap _ _ _ | exact .cons _ (.swap _ _ _) | exact .trans (.swap _ _ _) (.cons _ (.swap _ _ _)) | exact .trans (.cons _ (.swap _ _ _)) (.swap _ _ _) | exact .trans (.swap _ _ _) (.trans (.cons _ (.swap _ _ _)) (.swap _ _ _)))
      ·skip
       refine RD1.nv rfl (Gd.none rfl) ?_
       refine NV.alloc T rfl rfl rfl (by exact (rfl : _ = [_, _, _, _, _, _, _, _, _, _])) ?_
       intro b8_3
       refine ⟨(Stab.cons rfl (Gd.none rfl) (by first | exact QV.load_var1 T rfl rfl rfl rfl (by repeat first | exact At.head _ _ | assumption | exact At.put (by assumption) _ | apply At.tail | apply At.app) rfl | exact QV.load_varN T rfl rfl rfl rfl rfl (by repeat first | exact At.head _ _ | assumption | exact At.put (by assumption) _ | apply At.tail | apply At.app) rfl rfl | exact QV.load_elem T rfl rfl rfl rfl (by assumption) (by first | exact map_get _ _ (by omega) | assumption)) (Stab.cons rfl (Gd.none rfl) (by first | exact QV.load_var1 T rfl rfl rfl rfl (by repeat first | exact At.head _ _ | assumption | exact At.put (by assumption) _ | apply At.tail | apply At.app) rfl | exact QV.load_varN T rfl rfl rfl rfl rfl (by repeat first | exact At.head _ _ | assumption | exact At.put (by assumption) _ | apply At.tail | apply At.app) rfl rfl | exact QV.load_elem T rfl rfl rfl rfl (by assumption) (by first | exact map_get _ _ (by omega) | assumption)) Stab.nil)), ?_⟩
       refine RD.nv rfl rfl rfl (Gd.none rfl) ?_
       refine NV.alloc T rfl rfl rfl (by exact (rfl : _ = [_, _])) ?_
       intro b7_4
       refine ⟨(Stab.cons rfl (Gd.none rfl) (by first | exact QV.load_var1 T rfl rfl rfl rfl (by repeat first | exact At.head _ _ | assumption | exact At.put (by assumption) _ | apply At.tail | apply At.app) rfl | exact QV.load_varN T rfl rfl rfl rfl rfl (by repeat first | exact At.head _ _ | assumption | exact At.put (by assumption) _ | apply At.tail | apply At.app) rfl rfl | exact QV.load_elem T rfl rfl rfl rfl (by assumption) (by first | exact map_get _ _ (by omega) | assumption)) (Stab.cons rfl (Gd.none rfl) (by first | exact QV.load_var1 T rfl rfl rfl rfl (by repeat first | exact At.head _ _ | assumption | exact At.put (by assumption) _ | apply At.tail | apply At.app) rfl | exact QV.load_varN T rfl rfl rfl rfl rfl (by repeat first | exact At.head _ _ | assumption | exact At.put (by assumption) _ | apply At.tail | apply At.app) rfl rfl | exact QV.load_elem T rfl rfl rfl rfl (by assumption) (by first | exact map_get _ _ (by omega) | assumption)) Stab.nil)), ?_⟩
       refine RD.nv rfl rfl rfl (Gd.none rfl) ?_
       first
         | refine NV.store_var1 T rfl rfl rfl rfl (by conv => lhs; whnf) rfl (by repeat first | exact At.head _ _ | assumption | exact At.put (by assumption) _ | apply At.tail | apply At.app) rfl (by exact (rfl : _ = [_, _])) ?_
         | refine NV.store_var T rfl rfl rfl (by exact (rfl : _ = [_, _])) rfl rfl (by repeat first | exact At.head _ _ | assumption | exact At.put (by assumption) _ | apply At.tail | apply At.app) (Nat.le_of_ble_eq_true rfl) (by exact (rfl : _ = [_, _])) ?_
         | refine NV.store_elem T rfl rfl rfl rfl (by conv => lhs; whnf) rfl (by repeat first | exact At.head _ _ | assumption | exact At.put (by assumption) _ | apply At.tail | apply At.app) (by omega) ?_
       refine ⟨(Stab.cons rfl (Gd.none rfl) (by first | exact QV.load_var1 T rfl rfl rfl rfl (by repeat first | exact At.head _ _ | assumption | exact At.put (by assumption) _ | apply At.tail | apply At.app) rfl | exact QV.load_varN T rfl rfl rfl rfl rfl (by repeat first | exact At.head _ _ | assumption | exact At.put (by assumption) _ | apply At.tail | apply At.app) rfl rfl | exact QV.load_elem T rfl rfl rfl rfl (by assumption) (by first | exact map_get _ _ (by omega) | assumption)) Stab.nil), ?_⟩
       refine RD.nv rfl rfl rfl (Gd.none rfl) ?_
       first
         | refine NV.store_var1 T rfl rfl rfl rfl (by conv => lhs; whnf) rfl (by repeat first | exact At.head _ _ | assumption | exact At.put (by assumption) _ | apply At.tail | apply At.app) rfl (by exact (rfl : _ = [_, _, _, _, _, _, _, _, _, _])) ?_
         | refine NV.store_var T rfl rfl rfl (by exact (rfl : _ = [_, _, _, _, _, _, _, _, _, _])) rfl rfl (by repeat first | exact At.head _ _ | assumption | exact At.put (by assumption) _ | apply At.tail | apply At.app) (Nat.le_of_ble_eq_true rfl) (by exact (rfl : _ = [_, _, _, _, _, _, _, _, _, _])) ?_
         | refine NV.store_elem T rfl rfl rfl rfl (by conv => lhs; whnf) rfl (by repeat first | exact At.head _ _ | assumption | exact At.put (by assumption) _ | apply At.tail | apply At.app) (by omega) ?_
       refine ⟨Stab.nil, ?_⟩
       refine RD.k rfl rfl ?_
       exact hsh0 a1 c1 b7_4 b8_3 _ (by first | exact .refl _ | exact .swap _ _ _ | exact .cons _ (.swap _ _ _) | exact .trans (.swap _ _ _) (.cons _ (.swap _ _ _)) | exact .trans (.cons _ (.swap _ _ _)) (.swap _ _ _) | exact .trans (.swap _ _ _) (.trans (.cons _ (.swap _ _ _)) (.swap _ _ _)))
     ·skip
      refine RD1.nv rfl (Gd.none rfl) ?_
      refine NV.alloc T rfl rfl rfl (by exact (rfl : _ = [_, _])) ?_
      intro b7_3
      refine ⟨(Stab.cons rfl (Gd.none rfl) (by first | exact QV.load_var1 T rfl rfl rfl rfl (by repeat first | exact At.head _ _ | assumption | exact At.put (by assumption) _ | apply At.tail | apply At.app) rfl | exact QV.load_varN T rfl rfl rfl rfl rfl (by repeat first | exact At.head _ _ | assumption | exact At.put (by assumption) _ | apply At.tail | apply At.app) rfl rfl | exact QV.load_elem T rfl rfl rfl rfl (by assumption) (by first | exact map_get _ _ (by omega) | assumption)) (Stab.cons rfl (Gd.none rfl) (by first | exact QV.load_var1 T rfl rfl rfl rfl (by repeat first | exact At.head _ _ | assumption | exact At.put (by assumption) _ | apply At.tail | apply At.app) rfl | exact QV.load_varN T rfl rfl rfl rfl rfl (by repeat first | exact At.head _ _ | assumption | exact At.put (by assumption) _ | apply At.tail | apply At.app) rfl rfl | exact QV.load_elem T rfl rfl rfl rfl (by assumption) (by first | exact map_get _ _ (by omega) | assumption)) Stab.nil)), ?_⟩
      refine RD.many rfl rfl (.cons ?_ (.cons ?_ .nil))
      ·skip
       refine RD1.nv rfl (Gd.none rfl) ?_
       refine NV.call rfl rfl rfl fun12 rfl rfl (bto rs sr nr cr (hB _) hnr hmr hrs d) ?_
       rintro _ _ ⟨a1, c1, rfl, e⟩; obtain rfl := e.symm
       refine ⟨(Stab.cons rfl (Gd.none rfl) (by first | exact QV.load_var1 T rfl rfl rfl rfl (by repeat first | exact At.head _ _ | assumption | exact At.put (by assumption) _ | apply At.tail | apply At.app) rfl | exact QV.load_varN T rfl rfl rfl rfl rfl (by repeat first | exact At.head _ _ | assumption | exact At.put (by assumption) _ | apply At.tail | apply At.app) rfl rfl | exact QV.load_elem T rfl rfl rfl rfl (by assumption) (by first | exact map_get _ _ (by omega) | assumption)) Stab.nil), ?_⟩
       refine RD.nv rfl rfl rfl (Gd.none rfl) ?_
       refine NV.alloc T rfl rfl rfl (by exact (rfl : _ = [_, _, _, _, _, _, _, _, _, _])) ?_
       intro b8_4
       refine ⟨(Stab.cons rfl (Gd.none rfl) (by first | exact QV.load_var1 T rfl rfl rfl rfl (by repeat first | exact At.head _ _ | assumption | exact At.put (by assumption) _ | apply At.tail | apply At.app) rfl | exact QV.load_varN T rfl rfl rfl rfl rfl (by repeat first | exact At.head _ _ | assumption | exact At.put (by assumption) _ | apply At.tail | apply At.app) rfl rfl | exact QV.load_elem T rfl rfl rfl rfl (by assumption) (by first | exact map_get _ _ (by omega) | assumption)) (Stab.cons rfl (Gd.none rfl) (by first | exact QV.load_var1 T rfl rfl rfl rfl (by repeat first | exact At.head _ _ | assumption | exact At.put (by assumption) _ | apply At.tail | apply At.app) rfl | exact QV.load_varN T rfl rfl rfl rfl rfl (by repeat first | exact At.head _ _ | assumption | exact At.put (by assumption) _ | apply At.tail | apply At.app) rfl rfl | exact QV.load_elem T rfl rfl rfl rfl (by assumption) (by first | exact map_get _ _ (by omega) | assumption)) Stab.nil)), ?_⟩
       refine RD.nv rfl rfl rfl (Gd.none rfl) ?_
       first
         | refine NV.store_var1 T rfl rfl rfl rfl (by conv => lhs; whnf) rfl (by repeat first | exact At.head _ _ | assumption | exact At.put (by assumption) _ | apply At.tail | apply At.app) rfl (by exact (rfl : _ = [_, _])) ?_
         | refine NV.store_var T rfl rfl rfl (by exact (rfl : _ = [_, _])) rfl rfl (by repeat first | exact At.head _ _ | assumption | exact At.put (by assumption) _ | apply At.tail | apply At.app) (Nat.le_of_ble_eq_true rfl) (by exact (rfl : _ = [_, _])) ?_
         | refine NV.store_elem T rfl rfl rfl rfl (by conv => lhs; whnf) rfl (by repeat first | exact At.head _ _ | assumption | exact At.put (by assumption) _ | apply At.tail | apply At.app) (by omega) ?_
       refine ⟨(Stab.cons rfl (Gd.none rfl) (by first | exact QV.load_var1 T rfl rfl rfl rfl (by repeat first | exact At.head _ _ | assumption | exact At.put (by assumption) _ | apply At.tail | apply At.app) rfl | exact QV.load_varN T rfl rfl rfl rfl rfl (by repeat first | exact At.head _ _ | assumption | exact At.put (by assumption) _ | apply At.tail | apply At.app) rfl rfl | exact QV.load_elem T rfl rfl rfl rfl (by assumption) (by first | exact map_get _ _ (by omega) | assumption)) Stab.nil), ?_⟩
       refine RD.nv rfl rfl rfl (Gd.none rfl) ?_
       first
         | refine NV.store_var1 T rfl rfl rfl rfl (by conv => lhs; whnf) rfl (by repeat first | exact At.head _ _ | assumption | exact At.put (by assumption) _ | apply At.tail | apply At.app) rfl (by exact (rfl : _ = [_, _, _, _, _, _, _, _, _, _])) ?_
         | refine NV.store_var T rfl rfl rfl (by exact (rfl : _ = [_, _, _, _, _, _, _, _, _, _])) rfl rfl (by repeat first | exact At.head _ _ | assumption | exact At.put (by assumption) _ | apply At.tail | apply At.app) (Nat.le_of_ble_eq_true rfl) (by exact (rfl : _ = [_, _, _, _, _, _, _, _, _, _])) ?_
         | refine NV.store_elem T rfl rfl rfl rfl (by conv => lhs; whnf) rfl (by repeat first | exact At.head _ _ | assumption | exact At.put (by assumption) _ | apply At.tail | apply At.app) (by omega) ?_
       refine ⟨Stab.nil, ?_⟩
       refine RD.k rfl rfl ?_
       exact hsh0 a1 c1 b7_3 b8_4 _ (by first | exact .refl _ | exact .swap _ _ _ | exact .cons _ (.swap _ _ _) | exact .trans (.swap _ _ _) (.cons _ (.swap _ _ _)) | exact .trans (.cons _ (.swap _ _ _)) (.swap _ _ _) | exact .trans (.swap _ _ _) (.trans (.cons _ (.swap _ _ _)) (.swap _ _ _)))
      ·skip
       refine RD1.nv rfl (Gd.none rfl) ?_
       refine NV.alloc T rfl rfl rfl (by exact (rfl : _ = [_, _, _, _, _, _, _, _, _, _])) ?_
       intro b8_4
       refine ⟨(Stab.cons rfl (Gd.none rfl) (by first | exact QV.load_var1 T rfl rfl rfl rfl (by repeat first | exact At.head _ _ | assumption | exact At.put (by assumption) _ | apply At.tail | apply At.app) rfl | exact QV.load_varN T rfl rfl rfl rfl rfl (by repeat first | exact At.head _ _ | assumption | exact At.put (by assumption) _ | apply At.tail | apply At.app) rfl rfl | exact QV.load_elem T rfl rfl rfl rfl (by assumption) (by first | exact map_get _ _ (by omega) | assumption)) (Stab.cons rfl (Gd.none rfl) (by first | exact QV.load_var1 T rfl rfl rfl rfl (by repeat first | exact At.head _ _ | assumption | exact At.put (by assumption) _ | apply At.tail | apply At.app) rfl | exact QV.load_varN T rfl rfl rfl rfl rfl (by repeat first | exact At.head _ _ | assumption | exact At.put (by assumption) _ | apply At.tail | apply At.app) rfl rfl | exact QV.load_elem T rfl rfl rfl rfl (by assumption) (by first | exact map_get _ _ (by omega) | assumption)) Stab.nil)), ?_⟩
       refine RD.nv rfl rfl rfl (Gd.none rfl) ?_
       refine NV.call rfl rfl rfl fun12 rfl rfl (bto rs sr nr cr (hB _) hnr hmr hrs d) ?_
       rintro _ _ ⟨a1, c1, rfl, e⟩; obtain rfl := e.symm
       refine ⟨(Stab.cons rfl (Gd.none rfl) (by first | exact QV.load_var1 T rfl rfl rfl rfl (by repeat first | exact At.head _ _ | assumption | exact At.put (by assumption) _ | apply At.tail | apply At.app) rfl | exact QV.load_varN T rfl rfl rfl rfl rfl (by repeat first | exact At.head _ _ | assumption | exact At.put (by assumption) _ | apply At.tail | apply At.app) rfl rfl | exact QV.load_elem T rfl rfl rfl rfl (by assumption) (by first | exact map_get _ _ (by omega) | assumption)) Stab.nil), ?_⟩
       refine RD.nv rfl rfl rfl (Gd.none rfl) ?_
       first
         | refine NV.store_var1 T rfl rfl rfl rfl (by conv => lhs; whnf) rfl (by repeat first | exact At.head _ _ | assumption | exact At.put (by assumption) _ | apply At.tail | apply At.app) rfl (by exact (rfl : _ = [_, _])) ?_
         | refine NV.store_var T rfl rfl rfl (by exact (rfl : _ = [_, _])) rfl rfl (by repeat first | exact At.head _ _ | assumption | exact At.put (by assumption) _ | apply At.tail | apply At.app) (Nat.le_of_ble_eq_true rfl) (by exact (rfl : _ = [_, _])) ?_
         | refine NV.store_elem T rfl rfl rfl rfl (by conv => lhs; whnf) rfl (by repeat first | exact At.head _ _ | assumption | exact At.put (by assumption) _ | apply At.tail | apply At.app) (by omega) ?_
       refine ⟨(Stab.cons rfl (Gd.none rfl) (by first | exact QV.load_var1 T rfl rfl rfl rfl (by repeat first | exact At.head _ _ | assumption | exact At.put (by assumption) _ | apply At.tail | apply At.app) rfl | exact QV.load_varN T rfl rfl rfl rfl rfl (by repeat first | exact At.head _ _ | assumption | exact At.put (by assumption) _ | apply At.tail | apply At.app) rfl rfl | exact QV.load_elem T rfl rfl rfl rfl (by assumption) (by first | exact map_get _ _ (by omega) | assumption)) Stab.nil), ?_⟩
       refine RD.nv rfl rfl rfl (Gd.none rfl) ?_
       first
         | refine NV.store_var1 T rfl rfl rfl rfl (by conv => lhs; whnf) rfl (by repeat first | exact At.head _ _ | assumption | exact At.put (by assumption) _ | apply At.tail | apply At.app) rfl (by exact (rfl : _ = [_, _, _, _, _, _, _, _, _, _])) ?_
         | refine NV.store_var T rfl rfl rfl (by exact (rfl : _ = [_, _, _, _, _, _, _, _, _, _])) rfl rfl (by repeat first | exact At.head _ _ | assumption | exact At.put (by assumption) _ | apply At.tail | apply At.app) (Nat.le_of_ble_eq_true rfl) (by exact (rfl : _ = [_, _, _, _, _, _, _, _, _, _])) ?_
         | refine NV.store_elem T rfl rfl rfl rfl (by conv => lhs; whnf) rfl (by repeat first | exact At.head _ _ | assumption | exact At.put (by assumption) _ | apply At.tail | apply At.app) (by omega) ?_
       refine ⟨Stab.nil, ?_⟩
       refine RD.k rfl rfl ?_
       exact hsh0 a1 c1 b7_3 b8_4 _ (by first | exact .refl _ | exact .swap _ _ _ | exact .cons _ (.swap _ _ _) | exact .trans (.swap _ _ _) (.cons _ (.swap _ _ _)) | exact .trans (.cons _ (.swap _ _ _)) (.swap _ _ _) | exact .trans (.swap _ _ _) (.trans (.cons _ (.swap _ _ _)) (.swap _ _ _)))
     ·skip
      refine RD1.nv rfl (Gd.none rfl) ?_
      refine NV.alloc T rfl rfl rfl (by exact (rfl : _ = [_, _, _, _, _, _, _, _, _, _])) ?_
      intro b8_3
      refine ⟨(Stab.cons rfl (Gd.none rfl) (by first | exact QV.load_var1 T rfl rfl rfl rfl (by repeat first | exact At.head _ _ | assumption | exact At.put (by assumption) _ | apply At.tail | apply At.app) rfl | exact QV.load_varN T rfl rfl rfl rfl rfl (by repeat first | exact At.head _ _ | assumption | exact At.put (by assumption) _ | apply At.tail | apply At.app) rfl rfl | exact QV.load_elem T rfl rfl rfl rfl (by assumption) (by first | exact map_get _ _ (by omega) | assumption)) (Stab.cons rfl (Gd.none rfl) (by first | exact QV.load_var1 T rfl rfl rfl rfl (by repeat first | exact At.head _ _ | assumption | exact At.put (by assumption) _ | apply At.tail | apply At.app) rfl | exact QV.load_varN T rfl rfl rfl rfl rfl (by repeat first | exact At.head _ _ | assumption | exact At.put (by assumption) _ | apply At.tail | apply At.app) rfl rfl | exact QV.load_elem T rfl rfl rfl rfl (by assumption) (by first | exact map_get _ _ (by omega) | assumption)) Stab.nil)), ?_⟩
      refine RD.many rfl rfl (.cons ?_ (.cons ?_ .nil))
      ·skip
       refine RD1.nv rfl (Gd.none rfl) ?_
       refine NV.call rfl rfl rfl fun12 rfl rfl (bto rs sr nr cr (hB _) hnr hmr hrs d) ?_
       rintro _ _ ⟨a1, c1, rfl, e⟩; obtain rfl := e.symm
       refine ⟨(Stab.cons rfl (Gd.none rfl) (by first | exact QV.load_var1 T rfl rfl rfl rfl (by repeat first | exact At.head _ _ | assumption | exact At.put (by assumption) _ | apply At.tail | apply At.app) rfl | exact QV.load_varN T rfl rfl rfl rfl rfl (by repeat first | exact At.head _ _ | assumption | exact At.put (by assumption) _ | apply At.tail | apply At.app) rfl rfl | exact QV.load_elem T rfl rfl rfl rfl (by assumption) (by first | exact map_get _ _ (by omega) | assumption)) Stab.nil), ?_⟩
       refine RD.nv rfl rfl rfl (Gd.none rfl) ?_
       refine NV.alloc T rfl rfl rfl (by exact (rfl : _ = [_, _])) ?_
       intro b7_4
       refine ⟨(Stab.cons rfl (Gd.none rfl) (by first | exact QV.load_var1 T rfl rfl rfl rfl (by repeat first | exact At.head _ _ | assumption | exact At.put (by assumption) _ | apply At.tail | apply At.app) rfl | exact QV.load_varN T rfl rfl rfl rfl rfl (by repeat first | exact At.head _ _ | assumption | exact At.put (by assumption) _ | apply At.tail | apply At.app) rfl rfl | exact QV.load_elem T rfl rfl rfl rfl (by assumption) (by first | exact map_get _ _ (by omega) | assumption)) (Stab.cons rfl (Gd.none rfl) (by first | exact QV.load_var1 T rfl rfl rfl rfl (by repeat first | exact At.head _ _ | assumption | exact At.put (by assumption) _ | apply At.tail | apply At.app) rfl | exact QV.load_varN T rfl rfl rfl rfl rfl (by repeat first | exact At.head _ _ | assumption | exact At.put (by assumption) _ | apply At.tail | apply At.app) rfl rfl | exact QV.load_elem T rfl rfl rfl rfl (by assumption) (by first | exact map_get _ _ (by omega) | assumption)) Stab.nil)), ?_⟩
       refine RD.nv rfl rfl rfl (Gd.none rfl) ?_
       first
         | refine NV.store_var1 T rfl rfl rfl rfl (by conv => lhs; whnf) rfl (by repeat first | exact At.head _ _ | assumption | exact At.put (by assumption) _ | apply At.tail | apply At.app) rfl (by exact (rfl : _ = [_, _])) ?_
         | refine NV.store_var T rfl rfl rfl (by exact (rfl : _ = [_, _])) rfl rfl (by repeat first | exact At.head _ _ | assumption | exact At.put (by assumption) _ | apply At.tail | apply At.app) (Nat.le_of_ble_eq_true rfl) (by exact (rfl : _ = [_, _])) ?_
         | refine NV.store_elem T rfl rfl rfl rfl (by conv => lhs; whnf) rfl (by repeat first | exact At.head _ _ | assumption | exact At.put (by assumption) _ | apply At.tail | apply At.app) (by omega) ?_
       refine ⟨(Stab.cons rfl (Gd.none rfl) (by first | exact QV.load_var1 T rfl rfl rfl rfl (by repeat first | exact At.head _ _ | assumption | exact At.put (by assumption) _ | apply At.tail | apply At.app) rfl | exact QV.load_varN T rfl rfl rfl rfl rfl (by repeat first | exact At.head _ _ | assumption | exact At.put (by assumption) _ | apply At.tail | apply At.app) rfl rfl | exact QV.load_elem T rfl rfl rfl rfl (by assumption) (by first | exact map_get _ _ (by omega) | assumption)) Stab.nil), ?_⟩
       refine RD.nv rfl rfl rfl (Gd.none rfl) ?_
       first
         | refine NV.store_var1 T rfl rfl rfl rfl (by conv => lhs; whnf) rfl (by repeat first | exact At.head _ _ | assumption | exact At.put (by assumption) _ | apply At.tail | apply At.app) rfl (by exact (rfl : _ = [_, _, _, _, _, _, _, _, _, _])) ?_
         | refine NV.store_var T rfl rfl rfl (by exact (rfl : _ = [_, _, _, _, _, _, _, _, _, _])) rfl rfl (by repeat first | exact At.head _ _ | assumption | exact At.put (by assumption) _ | apply At.tail | apply At.app) (Nat.le_of_ble_eq_true rfl) (by exact (rfl : _ = [_, _, _, _, _, _, _, _, _, _])) ?_
         | refine NV.store_elem T rfl rfl rfl rfl (by conv => lhs; whnf) rfl (by repeat first | exact At.head _ _ | assumption | exact At.put (by assumption) _ | apply At.tail | apply At.app) (by omega) ?_
       refine ⟨Stab.nil, ?_⟩
       refine RD.k rfl rfl ?_
       exact hsh0 a1 c1 b7_4 b8_3 _ (by first | exact .refl _ | exact .swap _ _ _ | exact .cons _ (.swap _ _ _) | exact .trans (.swap _ _ _) (.cons _ (.swap _ _ _)) | exact .trans (.cons _ (.swap _ _ _)) (.swap _ _ _) | exact .trans (.swap _ _ _) (.trans (.cons _ (.swap _ _ _)) (.swap _ _ _)))
      ·skip
       refine RD1.nv rfl (Gd.none rfl) ?_
       refine NV.alloc T rfl rfl rfl (by exact (rfl : _ = [_, _])) ?_
       intro b7_4
       refine ⟨(Stab.cons rfl (Gd.none rfl) (by first | exact QV.load_var1 T rfl rfl rfl rfl (by repeat first | exact At.head _ _ | assumption | exact At.put (by assumption) _ | apply At.tail | apply At.app) rfl | exact QV.load_varN T rfl rfl rfl rfl rfl (by repeat first | exact At.head _ _ | assumption | exact At.put (by assumption) _ | apply At.tail | apply At.app) rfl rfl | exact QV.load_elem T rfl rfl rfl rfl (by assumption) (by first | exact map_get _ _ (by omega) | assumption)) (Stab.cons rfl (Gd.none rfl) (by first | exact QV.load_var1 T rfl rfl rfl rfl (by repeat first | exact At.head _ _ | assumption | exact At.put (by assumption) _ | apply At.tail | apply At.app) rfl | exact QV.load_varN T rfl rfl rfl rfl rfl (by repeat first | exact At.head _ _ | assumption | exact At.put (by assumption) _ | apply At.tail | apply At.app) rfl rfl | exact QV.load_elem T rfl rfl rfl rfl (by assumption) (by first | exact map_get _ _ (by omega) | assumption)) Stab.nil)), ?_⟩
       refine RD.nv rfl rfl rfl (Gd.none rfl) ?_
       refine NV.call rfl rfl rfl fun12 rfl rfl (bto rs sr nr cr (hB _) hnr hmr hrs d) ?_
       rintro _ _ ⟨a1, c1, rfl, e⟩; obtain rfl := e.symm
       refine ⟨(Stab.cons rfl (Gd.none rfl) (by first | exact QV.load_var1 T rfl rfl rfl rfl (by repeat first | exact At.head _ _ | assumption | exact At.put (by assumption) _ | apply At.tail | apply At.app) rfl | exact QV.load_varN T rfl rfl rfl rfl rfl (by repeat first | exact At.head _ _ | assumption | exact At.put (by assumption) _ | apply At.tail | apply At.app) rfl rfl | exact QV.load_elem T rfl rfl rfl rfl (by assumption) (by first | exact map_get _ _ (by omega) | assumption)) Stab.nil), ?_⟩
       refine RD.nv rfl rfl rfl (Gd.none rfl) ?_
       first
         | refine NV.store_var1 T rfl rfl rfl rfl (by conv => lhs; whnf) rfl (by repeat first | exact At.head _ _ | assumption | exact At.put (by assumption) _ | apply At.tail | apply At.app) rfl (by exact (rfl : _ = [_, _])) ?_
         | refine NV.store_var T rfl rfl rfl (by exact (rfl : _ = [_, _])) rfl rfl (by repeat first | exact At.head _ _ | assumption | exact At.put (by assumption) _ | apply At.tail | apply At.app) (Nat.le_of_ble_eq_true rfl) (by exact (rfl : _ = [_, _])) ?_
         | refine NV.store_elem T rfl rfl rfl rfl (by conv => lhs; whnf) rfl (by repeat first | exact At.head _ _ | assumption | exact At.put (by assumption) _ | apply At.tail | apply At.app) (by omega) ?_
       refine ⟨(Stab.cons rfl (Gd.none rfl) (by first | exact QV.load_var1 T rfl rfl rfl rfl (by repeat first | exact At.head _ _ | assumption | exact At.put (by assumption) _ | apply At.tail | apply At.app) rfl | exact QV.load_varN T rfl rfl rfl rfl rfl (by repeat first | exact At.head _ _ | assumption | exact At.put (by assumption) _ | apply At.tail | apply At.app) rfl rfl | exact QV.load_elem T rfl rfl rfl rfl (by assumption) (by first | exact map_get _ _ (by omega) | assumption)) Stab.nil), ?_⟩
       refine RD.nv rfl rfl rfl (Gd.none rfl) ?_
       first
         | refine NV.store_var1 T rfl rfl rfl rfl (by conv => lhs; whnf) rfl (by repeat first | exact At.head _ _ | assumption | exact At.put (by assumption) _ | apply At.tail | apply At.app) rfl (by exact (rfl : _ = [_, _, _, _, _, _, _, _, _, _])) ?_
         | refine NV.store_var T rfl rfl rfl (by exact (rfl : _ = [_, _, _, _, _, _, _, _, _, _])) rfl rfl (by repeat first | exact At.head _ _ | assumption | exact At.put (by assumption) _ | apply At.tail | apply At.app) (Nat.le_of_ble_eq_true rfl) (by exact (rfl : _ = [_, _, _, _, _, _, _, _, _, _])) ?_
         | refine NV.store_elem T rfl rfl rfl rfl (by conv => lhs; whnf) rfl (by repeat first | exact At.head _ _ | assumption | exact At.put (by assumption) _ | apply At.tail | apply At.app) (by omega) ?_
       refine ⟨Stab.nil, ?_⟩
       refine RD.k rfl rfl ?_
       exact hsh0 a1 c1 b7_4 b8_3 _ (by first | exact .refl _ | exact .swap _ _ _ | exact .cons _ (.swap _ _ _) | exact .trans (.swap _ _ _) (.cons _ (.swap _ _ _)) | exact .trans (.cons _ (.swap _ _ _)) (.swap _ _ _) | exact .trans (.swap _ _ _) (.trans (.cons _ (.swap _ _ _)) (.swap _ _ _)))
    ·intro a1 c1 b7_4 b8_3 Hp3 hp3
     refine hK4 _ _ _ ?_
     refine SW.perm' hp3 ?_
     refine SW.seq_k fun K5 hK5 => ?_
     refine SW.region _ _ _ _ ?_
     refine RL.lvN T rfl rfl rfl rfl rfl (by repeat first | exact At.head _ _ | assumption | exact At.put (by assumption) _ | apply At.tail | apply At.app) (by exact (rfl : _ = [_, _])) ?_
     refine RL.c fun12 (fun hs => bto rs sr nr cr (hB _) hnr hmr hrs d) ?_
     rintro _ _ ⟨a2, c2, rfl, e⟩; obtain rfl := e.symm
     refine RL.s ?_
     refine NV.alloc T rfl rfl rfl (by exact (rfl : _ = [_, _])) ?_
     intro b9_5
     refine RL.s ?_
     first
       | refine NV.store_var1 T rfl rfl rfl rfl (by conv => lhs; whnf) rfl (by repeat first | exact At.head _ _ | assumption | exact At.put (by assumption) _ | apply At.tail | apply At.app) rfl (by exact (rfl : _ = [_, _])) ?_
       | refine NV.store_var T rfl rfl rfl (by exact (rfl : _ = [_, _])) rfl rfl (by repeat first | exact At.head _ _ | assumption | exact At.put (by assumption) _ | apply At.tail | apply At.app) (Nat.le_of_ble_eq_true rfl) (by exact (rfl : _ = [_, _])) ?_
       | refine NV.store_elem T rfl rfl rfl rfl (by conv => lhs; whnf) rfl (by repeat first | exact At.head _ _ | assumption | exact At.put (by assumption) _ | apply At.tail | apply At.app) (by omega) ?_
     refine RL.nil _ _ _ _ ?_
     refine hK5 _ _ _ ?_
     refine SW.seq_k fun K6 hK6 => ?_
     refine SW.region _ _ _ _ ?_
     refine RL.p T ?_
     refine RL.lv1 T ?_
     refine RL.lvN T rfl rfl rfl rfl rfl (by repeat first | exact At.head _ _ | assumption | exact At.put (by assumption) _ | apply At.tail | apply At.app) (by exact (rfl : _ = [_, _, _, _, _, _, _, _, _, _])) ?_
     refine RL.bs T rfl rfl rfl (by exact (rfl : _ = some [_, _, _, _, _, _, _, _, _, _])) (fun b28_6 => ?_)
     refine RL.apS T ([q]) (fun a0_ c0_ => ?_)
     refine RL.p T ?_
     refine RL.sv1 T ?_
     refine RL.nil _ _ _ _ ?_
     refine hK6 _ _ _ ?_
     refine SW.seq_k fun K7 hK7 => ?_
     refine SW.seq_k fun K8 hK8 => ?_
     refine SW.region _ _ _ _ ?_
     refine RL.p T ?_
     refine RL.lv1 T ?_
     refine RL.p T ?_
     refine RL.p T ?_
     refine RL.p T ?_
     refine RL.join (fr1 := ?_) 3 35 false [36, 37, 38] (fun hs0 hj => ?_) ?_ ?_
     rotate_left
     ·have hs0j := hs0
      try simp only [decide_eq_true_eq, Bool.not_eq_true', decide_eq_false_iff_not, Bool.not_eq_false', Int.not_lt, Int.not_le, Int.toNat_natCast, Bool.and_eq_true, Bool.or_eq_true, Bool.and_eq_false_iff, Bool.or_eq_false_iff] at hs0
      refine RL.lvN T rfl rfl rfl rfl rfl (by repeat first | exact At.head _ _ | assumption | exact At.put (by assumption) _ | apply At.tail | apply At.app) (by exact (rfl : _ = [_, _])) ?_
      refine RL.c fun11 (fun hs => bcheck (rs ++ [q]) _ (nr + 1) _ (Rd.rowh hs (by repeat first | exact At.head _ _ | apply At.tail)) (by simp; omega) (by omega) (fun k => ok_snoc hrs hq k) d) ?_
      rintro _ _ ⟨rfl, e⟩; obtain rfl := e.symm
      refine RL.p T ?_
      exact hj
     ·repeat first | exact Mx.refl | exact Mx.mix | refine Mx.put rfl ?_ | refine Mx.upd rfl ?_ | refine Mx.updl rfl ?_ | refine Mx.fin rfl ?_ | refine Mx.inner rfl ?_ | refine Mx.none ?_
     refine RL.or ?_
     refine RL.p T ?_
     refine RL.join (fr1 := ?_) 3 40 false [41, 42, 43] (fun hs1 hj => ?_) ?_ ?_
     rotate_left
     ·have hs1j := hs1
      try simp only [decide_eq_true_eq, Bool.not_eq_true', decide_eq_false_iff_not, Bool.not_eq_false', Int.not_lt, Int.not_le, Int.toNat_natCast, Bool.and_eq_true, Bool.or_eq_true, Bool.and_eq_false_iff, Bool.or_eq_false_iff] at hs1
      refine RL.lvN T rfl rfl rfl rfl rfl (by repeat first | exact At.head _ _ | assumption | exact At.put (by assumption) _ | apply At.tail | apply At.app) (by exact (rfl : _ = [_, _, _, _, _, _, _, _, _, _, _])) ?_
      refine RL.c fun10 (fun hs => fcheck f sa n c (hR _) hn hm hf) ?_
      rintro _ _ ⟨rfl, e⟩; obtain rfl := e.symm
      refine RL.p T ?_
      exact hj
     ·repeat first | exact Mx.refl | exact Mx.mix | refine Mx.put rfl ?_ | refine Mx.upd rfl ?_ | refine Mx.updl rfl ?_ | refine Mx.fin rfl ?_ | refine Mx.inner rfl ?_ | refine Mx.none ?_
     refine RL.or ?_
     refine RL.nil _ _ _ _ ?_
     refine hK8 _ _ _ ?_
     refine SW.cs (fun hc1 => ?_) (fun hc1 => ?_)
     ·skip
      first
       | (exfalso; first | omega | contradiction | (simp at *; done))
       | (
        refine SW.seq_k fun K9 hK9 => ?_
        refine SW.region _ _ _ _ ?_
        refine RL.p T ?_
        refine RL.nil _ _ _ _ ?_
        refine hK9 _ _ _ ?_
        refine SW.ret ?_
        refine retQ.rr (H) ?_
        clear hK9 K9 hK8 K8 hK7 K7 hK6 K6 hK5 K5 hK4 K4 hK2 K2 hK1 K1 hK0 K0
        first
          | exact ⟨rfl, rfl⟩
          | (have g1 : chkB (rs ++ [q]) = 0 := by omega
             have g2 : chkF f = 0 := by omega
             have z1 := in_zero (d := d) g1 g2
             have z2 := in_zero (d := d) (chkB_app g1).1 g2
             exfalso; omega)
          | (have g1 : chkB (rs ++ [q]) = 0 := by omega
             have g2 : chkF f = 0 := by omega
             obtain ⟨e1, e2⟩ := adds_hit (d := d) g1 g2 (by omega)
             refine ⟨boolE ?_, rfl⟩
             rw [e1, e2]
             simp; omega)
          | (have g1 : chkB (rs ++ [q]) = 0 := by omega
             have g2 : chkF f = 0 := by omega
             obtain ⟨e1, e2⟩ := adds_new (d := d) g1 g2 (by omega) (by assumption)
             refine ⟨boolE ?_, rfl⟩
             rw [e1, e2]
             simp; omega)
          | (have g1 : chkB (rs ++ [q]) = 0 := by omega
             have g2 : chkF f = 0 := by omega
             obtain ⟨e1, e2, e3⟩ := adds_none (d := d) g1 g2 (by omega) (by assumption)
             refine ⟨boolE ?_, rfl⟩
             rw [e1, e2, e3]
             simp)
        )
     ·skip
      first
       | (exfalso; first | omega | contradiction | (simp at *; done))
       | (
        refine SW.skip ?_
        refine hK7 _ _ _ ?_
        refine SW.seq_k fun K10 hK10 => ?_
        refine SW.region _ _ _ _ ?_
        refine RL.lvN T rfl rfl rfl rfl rfl (by repeat first | exact At.head _ _ | assumption | exact At.put (by assumption) _ | apply At.tail | apply At.app) (by exact (rfl : _ = [_, _])) ?_
        refine RL.lvN T rfl rfl rfl rfl rfl (by repeat first | exact At.head _ _ | assumption | exact At.put (by assumption) _ | apply At.tail | apply At.app) (by exact (rfl : _ = [_, _, _, _, _, _, _, _, _, _, _])) ?_
        refine RL.c fun14 (fun hs => bfind rs a1 nr c1 (Rd.rowh hs (by repeat first | exact At.head _ _ | apply At.tail)) hnr (by omega) hrs d f sa n c (hR _) hn hm hf) ?_
        rintro _ _ ⟨rfl, e⟩; obtain rfl := e.symm
        refine RL.p T ?_
        refine RL.p T ?_
        refine RL.p T ?_
        refine RL.p T ?_
        refine RL.p T ?_
        refine RL.nil _ _ _ _ ?_
        refine hK10 _ _ _ ?_
        refine SW.seq_k fun K11 hK11 => ?_
        refine SW.region _ _ _ _ ?_
        refine RL.lvN T rfl rfl rfl rfl rfl (by repeat first | exact At.head _ _ | assumption | exact At.put (by assumption) _ | apply At.tail | apply At.app) (by exact (rfl : _ = [_, _])) ?_
        refine RL.lvN T rfl rfl rfl rfl rfl (by repeat first | exact At.head _ _ | assumption | exact At.put (by assumption) _ | apply At.tail | apply At.app) (by exact (rfl : _ = [_, _, _, _, _, _, _, _, _, _, _])) ?_
        refine RL.c fun14 (fun hs => bfind (rs ++ [q]) _ (nr + 1) _ (Rd.rowh hs (by repeat first | exact At.head _ _ | apply At.tail)) (by simp; omega) (by omega) (fun k => ok_snoc hrs hq k) d f sa n c (hR _) hn hm hf) ?_
        rintro _ _ ⟨rfl, e⟩; obtain rfl := e.symm
        refine RL.p T ?_
        refine RL.p T ?_
        refine RL.p T ?_
        refine RL.p T ?_
        refine RL.p T ?_
        refine RL.nil _ _ _ _ ?_
        refine hK11 _ _ _ ?_
        refine SW.seq_k fun K12 hK12 => ?_
        refine SW.region _ _ _ _ ?_
        refine RL.lvN T rfl rfl rfl rfl rfl (by repeat first | exact At.head _ _ | assumption | exact At.put (by assumption) _ | apply At.tail | apply At.app) (by exact (rfl : _ = [_, _])) ?_
        refine RL.lvN T rfl rfl rfl rfl rfl (by repeat first | exact At.head _ _ | assumption | exact At.put (by assumption) _ | apply At.tail | apply At.app) (by exact (rfl : _ = [_, _, _, _, _, _, _, _, _, _, _])) ?_
        refine RL.c fun13 (fun hs => bin (rs ++ [q]) _ (nr + 1) _ (Rd.rowh hs (by repeat first | exact At.head _ _ | apply At.tail)) (by simp; omega) (by omega) (fun k => ok_snoc hrs hq k) d f sa n c (hR _) hn hm hf) ?_
        rintro _ _ ⟨rfl, e⟩; obtain rfl := e.symm
        refine RL.p T ?_
        refine RL.p T ?_
        refine RL.p T ?_
        refine RL.p T ?_
        refine RL.p T ?_
        refine RL.nil _ _ _ _ ?_
        refine hK12 _ _ _ ?_
        refine SW.seq_k fun K13 hK13 => ?_
        refine SW.region _ _ _ _ ?_
        refine RL.lvN T rfl rfl rfl rfl rfl (by repeat first | exact At.head _ _ | assumption | exact At.put (by assumption) _ | apply At.tail | apply At.app) (by exact (rfl : _ = [_, _])) ?_
        refine RL.lvN T rfl rfl rfl rfl rfl (by repeat first | exact At.head _ _ | assumption | exact At.put (by assumption) _ | apply At.tail | apply At.app) (by exact (rfl : _ = [_, _, _, _, _, _, _, _, _, _, _])) ?_
        refine RL.c fun13 (fun hs => bin rs a1 nr c1 (Rd.rowh hs (by repeat first | exact At.head _ _ | apply At.tail)) hnr (by omega) hrs d f sa n c (hR _) hn hm hf) ?_
        rintro _ _ ⟨rfl, e⟩; obtain rfl := e.symm
        refine RL.p T ?_
        refine RL.p T ?_
        refine RL.p T ?_
        refine RL.p T ?_
        refine RL.p T ?_
        refine RL.nil _ _ _ _ ?_
        refine hK13 _ _ _ ?_
        refine SW.seq_k fun K14 hK14 => ?_
        refine SW.block ?_
        refine SW.seq_k fun K15 hK15 => ?_
        refine SW.region _ _ _ _ ?_
        refine RL.p T ?_
        refine RL.p T ?_
        refine RL.p T ?_
        refine RL.join (fr1 := ?_) 2 72 false [73, 74] (fun hs2 hj => ?_) ?_ ?_
        rotate_left
        ·have hs2j := hs2
         try simp only [decide_eq_true_eq, Bool.not_eq_true', decide_eq_false_iff_not, Bool.not_eq_false', Int.not_lt, Int.not_le, Int.toNat_natCast, Bool.and_eq_true, Bool.or_eq_true, Bool.and_eq_false_iff, Bool.or_eq_false_iff] at hs2
         refine RL.p T ?_
         refine RL.p T ?_
         exact hj
        ·repeat first | exact Mx.refl | exact Mx.mix | refine Mx.put rfl ?_ | refine Mx.upd rfl ?_ | refine Mx.updl rfl ?_ | refine Mx.fin rfl ?_ | refine Mx.inner rfl ?_ | refine Mx.none ?_
        refine RL.or ?_
        refine RL.p T ?_
        refine RL.nil _ _ _ _ ?_
        refine hK15 _ _ _ ?_
        refine SW.cs (fun hc2 => ?_) (fun hc2 => ?_)
        ·skip
         first
          | (exfalso; first | omega | contradiction | (simp at *; done))
          | (
           refine SW.seq_k fun K16 hK16 => ?_
           refine SW.region _ _ _ _ ?_
           refine RL.p T ?_
           refine RL.nil _ _ _ _ ?_
           refine hK16 _ _ _ ?_
           refine SW.ret ?_
           refine retQ.rr (H) ?_
           clear hK16 K16 hK15 K15 hK14 K14 hK13 K13 hK12 K12 hK11 K11 hK10 K10 hK8 K8 hK7 K7 hK6 K6 hK5 K5 hK4 K4 hK2 K2 hK1 K1 hK0 K0
           first
             | exact ⟨rfl, rfl⟩
             | (have g1 : chkB (rs ++ [q]) = 0 := by omega
                have g2 : chkF f = 0 := by omega
                have z1 := in_zero (d := d) g1 g2
                have z2 := in_zero (d := d) (chkB_app g1).1 g2
                exfalso; omega)
             | (have g1 : chkB (rs ++ [q]) = 0 := by omega
                have g2 : chkF f = 0 := by omega
                obtain ⟨e1, e2⟩ := adds_hit (d := d) g1 g2 (by omega)
                refine ⟨boolE ?_, rfl⟩
                rw [e1, e2]
                simp; omega)
             | (have g1 : chkB (rs ++ [q]) = 0 := by omega
                have g2 : chkF f = 0 := by omega
                obtain ⟨e1, e2⟩ := adds_new (d := d) g1 g2 (by omega) (by assumption)
                refine ⟨boolE ?_, rfl⟩
                rw [e1, e2]
                simp; omega)
             | (have g1 : chkB (rs ++ [q]) = 0 := by omega
                have g2 : chkF f = 0 := by omega
                obtain ⟨e1, e2, e3⟩ := adds_none (d := d) g1 g2 (by omega) (by assumption)
                refine ⟨boolE ?_, rfl⟩
                rw [e1, e2, e3]
                simp)
           )
        ·skip
         first
          | (exfalso; first | omega | contradiction | (simp at *; done))
          | (
           refine SW.seq_k fun K17 hK17 => ?_
           refine SW.region _ _ _ _ ?_
           refine RL.p T ?_
           refine RL.p T ?_
           refine RL.p T ?_
           refine RL.nil _ _ _ _ ?_
           refine hK17 _ _ _ ?_
           refine SW.cs (fun hc3 => ?_) (fun hc3 => ?_)
           ·skip
            first
             | (exfalso; first | omega | contradiction | (simp at *; done))
             | (
              refine SW.seq_k fun K18 hK18 => ?_
              refine SW.region _ _ _ _ ?_
              refine RL.p T ?_
              refine RL.p T ?_
              refine RL.p T ?_
              refine RL.join (fr1 := ?_) 3 81 true [82, 83, 84] (fun hs3 hj => ?_) ?_ ?_
              rotate_left
              ·have hs3j := hs3
               try simp only [decide_eq_true_eq, Bool.not_eq_true', decide_eq_false_iff_not, Bool.not_eq_false', Int.not_lt, Int.not_le, Int.toNat_natCast, Bool.and_eq_true, Bool.or_eq_true, Bool.and_eq_false_iff, Bool.or_eq_false_iff] at hs3
               refine RL.p T ?_
               refine RL.p T ?_
               refine RL.p T ?_
               exact hj
              ·repeat first | exact Mx.refl | exact Mx.mix | refine Mx.put rfl ?_ | refine Mx.upd rfl ?_ | refine Mx.updl rfl ?_ | refine Mx.fin rfl ?_ | refine Mx.inner rfl ?_ | refine Mx.none ?_
              refine RL.and ?_
              refine RL.p T ?_
              refine RL.join (fr1 := ?_) 3 86 true [87, 88, 89] (fun hs4 hj => ?_) ?_ ?_
              rotate_left
              ·have hs4j := hs4
               try simp only [decide_eq_true_eq, Bool.not_eq_true', decide_eq_false_iff_not, Bool.not_eq_false', Int.not_lt, Int.not_le, Int.toNat_natCast, Bool.and_eq_true, Bool.or_eq_true, Bool.and_eq_false_iff, Bool.or_eq_false_iff] at hs4
               refine RL.p T ?_
               refine RL.p T ?_
               refine RL.p T ?_
               exact hj
              ·repeat first | exact Mx.refl | exact Mx.mix | refine Mx.put rfl ?_ | refine Mx.upd rfl ?_ | refine Mx.updl rfl ?_ | refine Mx.fin rfl ?_ | refine Mx.inner rfl ?_ | refine Mx.none ?_
              refine RL.and ?_
              refine RL.p T ?_
              refine RL.nil _ _ _ _ ?_
              refine hK18 _ _ _ ?_
              refine SW.ret ?_
              refine retQ.rr (H) ?_
              clear hK18 K18 hK17 K17 hK15 K15 hK14 K14 hK13 K13 hK12 K12 hK11 K11 hK10 K10 hK8 K8 hK7 K7 hK6 K6 hK5 K5 hK4 K4 hK2 K2 hK1 K1 hK0 K0
              first
                | exact ⟨rfl, rfl⟩
                | (have g1 : chkB (rs ++ [q]) = 0 := by omega
                   have g2 : chkF f = 0 := by omega
                   have z1 := in_zero (d := d) g1 g2
                   have z2 := in_zero (d := d) (chkB_app g1).1 g2
                   exfalso; omega)
                | (have g1 : chkB (rs ++ [q]) = 0 := by omega
                   have g2 : chkF f = 0 := by omega
                   obtain ⟨e1, e2⟩ := adds_hit (d := d) g1 g2 (by omega)
                   refine ⟨boolE ?_, rfl⟩
                   rw [e1, e2]
                   simp; omega)
                | (have g1 : chkB (rs ++ [q]) = 0 := by omega
                   have g2 : chkF f = 0 := by omega
                   obtain ⟨e1, e2⟩ := adds_new (d := d) g1 g2 (by omega) (by assumption)
                   refine ⟨boolE ?_, rfl⟩
                   rw [e1, e2]
                   simp; omega)
                | (have g1 : chkB (rs ++ [q]) = 0 := by omega
                   have g2 : chkF f = 0 := by omega
                   obtain ⟨e1, e2, e3⟩ := adds_none (d := d) g1 g2 (by omega) (by assumption)
                   refine ⟨boolE ?_, rfl⟩
                   rw [e1, e2, e3]
                   simp)
              )
           ·skip
            first
             | (exfalso; first | omega | contradiction | (simp at *; done))
             | (
              refine SW.seq_k fun K19 hK19 => ?_
              refine SW.region _ _ _ _ ?_
              refine RL.lvN T rfl rfl rfl rfl rfl (by repeat first | exact At.head _ _ | assumption | exact At.put (by assumption) _ | apply At.tail | apply At.app) (by exact (rfl : _ = [_, _, _, _, _, _, _, _, _, _])) ?_
              refine RL.lvN T rfl rfl rfl rfl rfl (by repeat first | exact At.head _ _ | assumption | exact At.put (by assumption) _ | apply At.tail | apply At.app) (by exact (rfl : _ = [_, _, _, _, _, _, _, _, _, _, _])) ?_
              refine RL.c fun17 (fun hs => qfits q hq f sa n c (hR _) hn hm hf) ?_
              rintro _ _ ⟨rfl, e⟩; obtain rfl := e.symm
              refine RL.p T ?_
              refine RL.nil _ _ _ _ ?_
              refine hK19 _ _ _ ?_
              refine SW.cs (fun hc4 => ?_) (fun hc4 => ?_)
              ·skip
               first
                | (exfalso; first | omega | contradiction | (simp at *; done))
                | (
                 refine SW.seq_k fun K20 hK20 => ?_
                 refine SW.region _ _ _ _ ?_
                 refine RL.p T ?_
                 refine RL.p T ?_
                 refine RL.p T ?_
                 refine RL.join (fr1 := ?_) 5 97 true [98, 99, 100, 101, 102] (fun hs5 hj => ?_) ?_ ?_
                 rotate_left
                 ·have hs5j := hs5
                  try simp only [decide_eq_true_eq, Bool.not_eq_true', decide_eq_false_iff_not, Bool.not_eq_false', Int.not_lt, Int.not_le, Int.toNat_natCast, Bool.and_eq_true, Bool.or_eq_true, Bool.and_eq_false_iff, Bool.or_eq_false_iff] at hs5
                  refine RL.p T ?_
                  refine RL.p T ?_
                  refine RL.lv1 T ?_
                  refine RL.p T ?_
                  refine RL.p T ?_
                  exact hj
                 ·repeat first | exact Mx.refl | exact Mx.mix | refine Mx.put rfl ?_ | refine Mx.upd rfl ?_ | refine Mx.updl rfl ?_ | refine Mx.fin rfl ?_ | refine Mx.inner rfl ?_ | refine Mx.none ?_
                 refine RL.and ?_
                 refine RL.p T ?_
                 refine RL.join (fr1 := ?_) 4 104 true [105, 106, 107, 108] (fun hs6 hj => ?_) ?_ ?_
                 rotate_left
                 ·have hs6j := hs6
                  try simp only [decide_eq_true_eq, Bool.not_eq_true', decide_eq_false_iff_not, Bool.not_eq_false', Int.not_lt, Int.not_le, Int.toNat_natCast, Bool.and_eq_true, Bool.or_eq_true, Bool.and_eq_false_iff, Bool.or_eq_false_iff] at hs6
                  refine RL.p T ?_
                  refine RL.p T ?_
                  refine RL.lv1 T ?_
                  refine RL.p T ?_
                  exact hj
                 ·repeat first | exact Mx.refl | exact Mx.mix | refine Mx.put rfl ?_ | refine Mx.upd rfl ?_ | refine Mx.updl rfl ?_ | refine Mx.fin rfl ?_ | refine Mx.inner rfl ?_ | refine Mx.none ?_
                 refine RL.and ?_
                 refine RL.p T ?_
                 refine RL.nil _ _ _ _ ?_
                 refine hK20 _ _ _ ?_
                 refine SW.ret ?_
                 refine retQ.rr (H) ?_
                 clear hK20 K20 hK19 K19 hK17 K17 hK15 K15 hK14 K14 hK13 K13 hK12 K12 hK11 K11 hK10 K10 hK8 K8 hK7 K7 hK6 K6 hK5 K5 hK4 K4 hK2 K2 hK1 K1 hK0 K0
                 first
                   | exact ⟨rfl, rfl⟩
                   | (have g1 : chkB (rs ++ [q]) = 0 := by omega
                      have g2 : chkF f = 0 := by omega
                      have z1 := in_zero (d := d) g1 g2
                      have z2 := in_zero (d := d) (chkB_app g1).1 g2
                      exfalso; omega)
                   | (have g1 : chkB (rs ++ [q]) = 0 := by omega
                      have g2 : chkF f = 0 := by omega
                      obtain ⟨e1, e2⟩ := adds_hit (d := d) g1 g2 (by omega)
                      refine ⟨boolE ?_, rfl⟩
                      rw [e1, e2]
                      simp; omega)
                   | (have g1 : chkB (rs ++ [q]) = 0 := by omega
                      have g2 : chkF f = 0 := by omega
                      obtain ⟨e1, e2⟩ := adds_new (d := d) g1 g2 (by omega) (by assumption)
                      refine ⟨boolE ?_, rfl⟩
                      rw [e1, e2]
                      simp; omega)
                   | (have g1 : chkB (rs ++ [q]) = 0 := by omega
                      have g2 : chkF f = 0 := by omega
                      obtain ⟨e1, e2, e3⟩ := adds_none (d := d) g1 g2 (by omega) (by assumption)
                      refine ⟨boolE ?_, rfl⟩
                      rw [e1, e2, e3]
                      simp)
                 )
              ·skip
               first
                | (exfalso; first | omega | contradiction | (simp at *; done))
                | (
                 refine SW.skip ?_
                 refine hK14 _ _ _ ?_
                 refine SW.seq_k fun K21 hK21 => ?_
                 refine SW.region _ _ _ _ ?_
                 refine RL.p T ?_
                 refine RL.p T ?_
                 refine RL.p T ?_
                 refine RL.join (fr1 := ?_) 3 112 true [113, 114, 115] (fun hs7 hj => ?_) ?_ ?_
                 rotate_left
                 ·have hs7j := hs7
                  try simp only [decide_eq_true_eq, Bool.not_eq_true', decide_eq_false_iff_not, Bool.not_eq_false', Int.not_lt, Int.not_le, Int.toNat_natCast, Bool.and_eq_true, Bool.or_eq_true, Bool.and_eq_false_iff, Bool.or_eq_false_iff] at hs7
                  refine RL.p T ?_
                  refine RL.p T ?_
                  refine RL.p T ?_
                  exact hj
                 ·repeat first | exact Mx.refl | exact Mx.mix | refine Mx.put rfl ?_ | refine Mx.upd rfl ?_ | refine Mx.updl rfl ?_ | refine Mx.fin rfl ?_ | refine Mx.inner rfl ?_ | refine Mx.none ?_
                 refine RL.and ?_
                 refine RL.p T ?_
                 refine RL.join (fr1 := ?_) 4 117 true [118, 119, 120, 121] (fun hs8 hj => ?_) ?_ ?_
                 rotate_left
                 ·have hs8j := hs8
                  try simp only [decide_eq_true_eq, Bool.not_eq_true', decide_eq_false_iff_not, Bool.not_eq_false', Int.not_lt, Int.not_le, Int.toNat_natCast, Bool.and_eq_true, Bool.or_eq_true, Bool.and_eq_false_iff, Bool.or_eq_false_iff] at hs8
                  refine RL.p T ?_
                  refine RL.p T ?_
                  refine RL.lv1 T ?_
                  refine RL.p T ?_
                  exact hj
                 ·repeat first | exact Mx.refl | exact Mx.mix | refine Mx.put rfl ?_ | refine Mx.upd rfl ?_ | refine Mx.updl rfl ?_ | refine Mx.fin rfl ?_ | refine Mx.inner rfl ?_ | refine Mx.none ?_
                 refine RL.and ?_
                 refine RL.p T ?_
                 refine RL.nil _ _ _ _ ?_
                 refine hK21 _ _ _ ?_
                 refine SW.ret ?_
                 refine retQ.rr (H) ?_
                 clear hK21 K21 hK19 K19 hK17 K17 hK15 K15 hK14 K14 hK13 K13 hK12 K12 hK11 K11 hK10 K10 hK8 K8 hK7 K7 hK6 K6 hK5 K5 hK4 K4 hK2 K2 hK1 K1 hK0 K0
                 first
                   | exact ⟨rfl, rfl⟩
                   | (have g1 : chkB (rs ++ [q]) = 0 := by omega
                      have g2 : chkF f = 0 := by omega
                      have z1 := in_zero (d := d) g1 g2
                      have z2 := in_zero (d := d) (chkB_app g1).1 g2
                      exfalso; omega)
                   | (have g1 : chkB (rs ++ [q]) = 0 := by omega
                      have g2 : chkF f = 0 := by omega
                      obtain ⟨e1, e2⟩ := adds_hit (d := d) g1 g2 (by omega)
                      refine ⟨boolE ?_, rfl⟩
                      rw [e1, e2]
                      simp; omega)
                   | (have g1 : chkB (rs ++ [q]) = 0 := by omega
                      have g2 : chkF f = 0 := by omega
                      obtain ⟨e1, e2⟩ := adds_new (d := d) g1 g2 (by omega) (by assumption)
                      refine ⟨boolE ?_, rfl⟩
                      rw [e1, e2]
                      simp; omega)
                   | (have g1 : chkB (rs ++ [q]) = 0 := by omega
                      have g2 : chkF f = 0 := by omega
                      obtain ⟨e1, e2, e3⟩ := adds_none (d := d) g1 g2 (by omega) (by assumption)
                      refine ⟨boolE ?_, rfl⟩
                      rw [e1, e2, e3]
                      simp)
                 )
              )
           )
        )
    )
end Go.Proofs.Ytgdnanfnmaafoaa.M
