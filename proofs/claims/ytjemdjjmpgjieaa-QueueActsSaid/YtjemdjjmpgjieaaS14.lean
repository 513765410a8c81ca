import Derived.Test.YtjemdjjmpgjieaaS13
set_option linter.unusedVariables false
set_option linter.unusedSimpArgs false
/- Slicing, conversions, remainders: short steps. -/
namespace Go.Sep
open Go Go.RowKit
section
variable {P : Program} {w0 : World} {N : Nat} {r : Option Nat} {fr : Fr} {ds : List Deferred} {H : List Chunk} {ops : Array Oper} {l : List Oper} {o : Oper} {K : Cont} {KQ : Fr → Prop} {dd : Option Tmp}
/-- What bounds a slicing is told. -/
def BdL (fr : Fr) : Option Operand → Nat → Prop
  | none, a => a = 0
  | some y, a => ∃ k z, ev fr y = .int k z ∧ z = (a : Int)
def BdH (fr : Fr) (n : Nat) : Option Operand → Nat → Prop
  | none, a => a = n
  | some y, a => ∃ k z, ev fr y = .int k z ∧ z = (a : Int)
theorem BdL.is {lo : Option Operand} {a : Nat} (h : BdL fr lo a) : match lo with | none => a = 0 | some y => ∃ k, ev fr y = .int k (a : Int) := by
  cases lo with
  | none => exact h
  | some y => obtain ⟨k, z, h1, rfl⟩ := h; exact ⟨k, h1⟩
theorem BdH.is {n : Nat} {hi : Option Operand} {a : Nat} (h : BdH fr n hi a) : match hi with | none => a = n | some y => ∃ k, ev fr y = .int k (a : Int) := by
  cases hi with
  | none => exact h
  | some y => obtain ⟨k, z, h1, rfl⟩ := h; exact ⟨k, h1⟩
theorem RL.sl (T : Tab P) {t e : TypeId} {x : Operand} {lo hi : Option Operand} {a : Option Addr} {n c sz l1 h1 : Nat} {ie : TypeInfo} {xs : List Value} (h : RL P w0 N r ops l (putF fr dd (.slice (subA a l1 c ie.size) (h1 - l1) (c - l1))) ds H K)
    (ho : o.op = .slice t x lo hi none := by rfl) (hg : Gd ops fr o := by first | exact Gd.none rfl | exact Gd.yes rfl rfl | exact Gd.yes rfl (congrArg Value.bool (by assumption))) (hdd : o.dst = dd := by rfl) (hN : dstOK N dd = true := by rfl)
    (hx : ev fr x = .slice a n c := by rfl) (hd : T.desc t = some (.slice e) := by rfl) (hi' : T.info e = some ie := by rfl)
    (hlo : BdL fr lo l1 := by first | exact (rfl : _ = 0) | exact ⟨_, _, rfl, rfl⟩ | exact ⟨_, _, rfl, by omega⟩) (hhi : BdH fr n hi h1 := by first | exact (rfl : _ = _) | exact ⟨_, _, rfl, rfl⟩ | exact ⟨_, _, rfl, by omega⟩)
    (hR : (∃ w, Sat w0 w H) → Rd w0 H a n c sz xs := by intro hs; repeat first | assumption | exact Rd.rowh hs (by repeat first | exact At.head _ _ | apply At.tail | apply At.app) | apply Rd.cons | apply Rd.app | solve_by_elim)
    (hb1 : l1 ≤ h1 := by omega) (hb2 : h1 ≤ n := by omega) : RL P w0 N r ops (o :: l) fr ds H K :=
  RL.step hg hdd hN (NV.sat (fun hs => NV.slice T ho hx hd hi' (by cases lo <;> exact hlo.is) (by cases hi <;> exact hhi.is) hb1 (Nat.le_trans hb2 (hR hs).cap) h) (fun c hc => by rw [ho] at hc; cases hc))
theorem QL.sl (T : Tab P) {t e : TypeId} {x : Operand} {lo hi : Option Operand} {a : Option Addr} {n c sz l1 h1 : Nat} {ie : TypeInfo} {xs : List Value} (h : QL P w0 r ops H l (putF fr dd (.slice (subA a l1 c ie.size) (h1 - l1) (c - l1))) KQ)
    (ho : o.op = .slice t x lo hi none := by rfl) (hg : Gd ops fr o := by first | exact Gd.none rfl | exact Gd.yes rfl rfl | exact Gd.yes rfl (congrArg Value.bool (by assumption))) (hdd : o.dst = dd := by rfl)
    (hx : ev fr x = .slice a n c := by rfl) (hd : T.desc t = some (.slice e) := by rfl) (hi' : T.info e = some ie := by rfl)
    (hlo : BdL fr lo l1 := by first | exact (rfl : _ = 0) | exact ⟨_, _, rfl, rfl⟩ | exact ⟨_, _, rfl, by omega⟩) (hhi : BdH fr n hi h1 := by first | exact (rfl : _ = _) | exact ⟨_, _, rfl, rfl⟩ | exact ⟨_, _, rfl, by omega⟩)
    (hR : (∃ w, Sat w0 w H) → Rd w0 H a n c sz xs := by intro hs; repeat first | assumption | exact Rd.rowh hs (by repeat first | exact At.head _ _ | apply At.tail | apply At.app) | apply Rd.cons | apply Rd.app | solve_by_elim)
    (hb1 : l1 ≤ h1 := by omega) (hb2 : h1 ≤ n := by omega) : QL P w0 r ops H (o :: l) fr KQ :=
  QL.step hg hdd (QV.sat fun hs => QV.slice T ho hx hd hi' (by cases lo <;> exact hlo.is) (by cases hi <;> exact hhi.is) hb1 (Nat.le_trans hb2 (hR hs).cap)) h
/-- 'x[l:h:m]'. -/
theorem QV.slice3 (T : Tab P) {t e : TypeId} {x lo hi mx : Operand} {a : Option Addr} {n c l1 h1 m1 : Nat} {ie : TypeInfo} {k1 k2 k3 : IntKind} {zl zh zm : Int} (ho : o.op = .slice t x (some lo) (some hi) (some mx)) (hx : ev fr x = .slice a n c) (hd : T.desc t = some (.slice e)) (hi' : T.info e = some ie)
    (hlo : ev fr lo = .int k1 zl) (hhi : ev fr hi = .int k2 zh) (hmx : ev fr mx = .int k3 zm) (e1 : zl = (l1 : Int)) (e2 : zh = (h1 : Int)) (e3 : zm = (m1 : Int)) (hb1 : l1 ≤ h1) (hb2 : h1 ≤ m1) (hb3 : m1 ≤ c) :
    QV P w0 fr H o (.slice (subA a l1 m1 ie.size) (h1 - l1) (m1 - l1)) := by
  subst e1 e2 e3
  intro w _
  simp only [execOp, ho, Instr.sliceAt, Instr.slice, Sem.run_bind, run_ul T hd, Result.andThen_ok, hx]
  simp [Instr.sliceBounds, Instr.sliceBound, asIntOf, hlo, hhi, hmx, run_size T hi', subA, hb1, hb2, hb3]
theorem RL.sl3 (T : Tab P) {t e : TypeId} {x lo hi mx : Operand} {a : Option Addr} {n c sz l1 h1 m1 : Nat} {ie : TypeInfo} {xs : List Value} {k1 k2 k3 : IntKind} {zl zh zm : Int} (h : RL P w0 N r ops l (putF fr dd (.slice (subA a l1 m1 ie.size) (h1 - l1) (m1 - l1))) ds H K)
    (ho : o.op = .slice t x (some lo) (some hi) (some mx) := by rfl) (hg : Gd ops fr o := by first | exact Gd.none rfl | exact Gd.yes rfl rfl | exact Gd.yes rfl (congrArg Value.bool (by assumption))) (hdd : o.dst = dd := by rfl) (hN : dstOK N dd = true := by rfl)
    (hx : ev fr x = .slice a n c := by rfl) (hd : T.desc t = some (.slice e) := by rfl) (hi' : T.info e = some ie := by rfl)
    (hlo : ev fr lo = .int k1 zl := by rfl) (hhi : ev fr hi = .int k2 zh := by rfl) (hmx : ev fr mx = .int k3 zm := by rfl) (e1 : zl = (l1 : Int) := by first | rfl | omega) (e2 : zh = (h1 : Int) := by first | rfl | omega) (e3 : zm = (m1 : Int) := by first | rfl | omega)
    (hR : (∃ w, Sat w0 w H) → Rd w0 H a n c sz xs := by intro hs; repeat first | assumption | exact Rd.rowh hs (by repeat first | exact At.head _ _ | apply At.tail | apply At.app) | apply Rd.cons | apply Rd.app | solve_by_elim)
    (hb1 : l1 ≤ h1 := by omega) (hb2 : h1 ≤ m1 := by omega) (hb3 : m1 ≤ n := by omega) : RL P w0 N r ops (o :: l) fr ds H K :=
  RL.step hg hdd hN (NV.sat (fun hs => QV.nv _ _ _ (fun c hc => by rw [ho] at hc; cases hc) (QV.slice3 T ho hx hd hi' hlo hhi hmx e1 e2 e3 hb1 hb2 (Nat.le_trans hb3 (hR hs).cap)) h) (fun c hc => by rw [ho] at hc; cases hc))
/-- A conversion that keeps the number. -/
theorem RL.cv (T : Tab P) {s d : TypeId} {x : Operand} {k k' : IntKind} {n : Int} {sd : TypeDesc} (h : RL P w0 N r ops l (putF fr dd (.int k' n)) ds H K)
    (ho : o.op = .convert s d x := by rfl) (hg : Gd ops fr o := by first | exact Gd.none rfl | exact Gd.yes rfl rfl | exact Gd.yes rfl (congrArg Value.bool (by assumption))) (hdd : o.dst = dd := by rfl) (hN : dstOK N dd = true := by rfl)
    (hx : ev fr x = .int k n := by rfl) (hs : T.desc s = some sd := by rfl) (hd : T.desc d = some (.int k') := by rfl) (h1 : loK k' ≤ n := by simp only [loK]; omega) (h2 : n ≤ hiK k' := by simp only [hiK]; omega) : RL P w0 N r ops (o :: l) fr ds H K :=
  RL.step hg hdd hN (NV.convI T ho hx hs hd h1 h2 h)
theorem QL.cv (T : Tab P) {s d : TypeId} {x : Operand} {k k' : IntKind} {n : Int} {sd : TypeDesc} (h : QL P w0 r ops H l (putF fr dd (.int k' n)) KQ)
    (ho : o.op = .convert s d x := by rfl) (hg : Gd ops fr o := by first | exact Gd.none rfl | exact Gd.yes rfl rfl | exact Gd.yes rfl (congrArg Value.bool (by assumption))) (hdd : o.dst = dd := by rfl)
    (hx : ev fr x = .int k n := by rfl) (hs : T.desc s = some sd := by rfl) (hd : T.desc d = some (.int k') := by rfl) (h1 : loK k' ≤ n := by simp only [loK]; omega) (h2 : n ≤ hiK k' := by simp only [hiK]; omega) : QL P w0 r ops H (o :: l) fr KQ :=
  QL.step hg hdd (QV.convI T ho hx hs hd h1 h2) h
/-- Sums, differences, products of any kind of whole numbers. -/
theorem QV.arK {k : IntKind} {op : BinOp} {t yt : TypeId} {x y : Operand} {a b m : Int} (ho : o.op = .binOp op t x y yt) (hx : ev fr x = .int k a) (hy : ev fr y = .int k b) (hm : intv op k a b = some (.int k (k.wrap m))) (h1 : loK k ≤ m) (h2 : m ≤ hiK k) : QV P w0 fr H o (.int k m) := by
  intro w _
  rw [wrap_in h1 h2] at hm
  have hg : (eqGuard op t x y (.int k a) (.int k b)).run P w = .ok () w := by
    unfold eqGuard
    cases op <;> simp
  simp [execOp, ho, hx, hy, run_intv hm, hg]
theorem RL.arK {k : IntKind} {op : BinOp} {t yt : TypeId} {x y : Operand} {a b m : Int} (h : RL P w0 N r ops l (putF fr dd (.int k m)) ds H K)
    (ho : o.op = .binOp op t x y yt := by rfl) (hg : Gd ops fr o := by first | exact Gd.none rfl | exact Gd.yes rfl rfl | exact Gd.yes rfl (congrArg Value.bool (by assumption))) (hdd : o.dst = dd := by rfl) (hN : dstOK N dd = true := by rfl)
    (hx : ev fr x = .int k a := by rfl) (hy : ev fr y = .int k b := by rfl) (hm : intv op k a b = some (.int k (k.wrap m)) := by rfl) (h1 : loK k ≤ m := by simp only [loK]; omega) (h2 : m ≤ hiK k := by simp only [hiK]; omega) : RL P w0 N r ops (o :: l) fr ds H K :=
  RL.step hg hdd hN (QV.nv _ _ _ (fun c hc => by rw [ho] at hc; cases hc) (QV.arK ho hx hy hm h1 h2) h)
theorem QL.arK {k : IntKind} {op : BinOp} {t yt : TypeId} {x y : Operand} {a b m : Int} (h : QL P w0 r ops H l (putF fr dd (.int k m)) KQ)
    (ho : o.op = .binOp op t x y yt := by rfl) (hg : Gd ops fr o := by first | exact Gd.none rfl | exact Gd.yes rfl rfl | exact Gd.yes rfl (congrArg Value.bool (by assumption))) (hdd : o.dst = dd := by rfl)
    (hx : ev fr x = .int k a := by rfl) (hy : ev fr y = .int k b := by rfl) (hm : intv op k a b = some (.int k (k.wrap m)) := by rfl) (h1 : loK k ≤ m := by simp only [loK]; omega) (h2 : m ≤ hiK k := by simp only [hiK]; omega) : QL P w0 r ops H (o :: l) fr KQ :=
  QL.step hg hdd (QV.arK ho hx hy hm h1 h2) h
/-- Shifts, quotients, remainders. -/
theorem RL.q {v : Value} (hv : QV P w0 fr H o v) (h : RL P w0 N r ops l (putF fr dd v) ds H K) (hn : ∀ c, o.op ≠ .defer c := by intro c hc; cases hc) (hg : Gd ops fr o := by first | exact Gd.none rfl | exact Gd.yes rfl rfl | exact Gd.yes rfl (congrArg Value.bool (by assumption))) (hdd : o.dst = dd := by rfl) (hN : dstOK N dd = true := by rfl) : RL P w0 N r ops (o :: l) fr ds H K :=
  RL.step hg hdd hN (QV.nv _ _ _ hn hv h)
theorem QL.q {v : Value} (hv : QV P w0 fr H o v) (h : QL P w0 r ops H l (putF fr dd v) KQ) (hg : Gd ops fr o := by first | exact Gd.none rfl | exact Gd.yes rfl rfl | exact Gd.yes rfl (congrArg Value.bool (by assumption))) (hdd : o.dst = dd := by rfl) : QL P w0 r ops H (o :: l) fr KQ := QL.step hg hdd hv h
theorem QV.shrP {t yt : TypeId} {x y : Operand} {k yk : IntKind} {a b : Int} {s : Nat} (ho : o.op = .binOp .shr t x y yt) (hx : ev fr x = .int k a) (hy : ev fr y = .int yk b) (hs : b = (s : Int)) (h0 : 0 ≤ a) (hb : Nat.ble s k.bits = true) : QV P w0 fr H o (.int k (a / 2 ^ s)) := by
  subst hs
  refine QV.shift ho hx hy (by omega) (.inr ⟨rfl, ?_⟩)
  have : min ((s : Int).toNat) k.bits = s := by have := Nat.le_of_ble_eq_true hb; simp; omega
  rw [this, Int.fdiv_eq_ediv_of_nonneg _ (Int.le_of_lt (Int.pow_pos (by decide)))]
theorem QV.shlP {t yt : TypeId} {x y : Operand} {k yk : IntKind} {a b : Int} {s : Nat} (ho : o.op = .binOp .shl t x y yt) (hx : ev fr x = .int k a) (hy : ev fr y = .int yk b) (hs : b = (s : Int)) (hb : Nat.ble s k.bits = true) (h0 : loK k ≤ a * 2 ^ s) (h1 : a * 2 ^ s ≤ hiK k) : QV P w0 fr H o (.int k (a * 2 ^ s)) := by
  subst hs
  refine QV.shift ho hx hy (by omega) (.inl ⟨rfl, ?_⟩)
  have : min ((s : Int).toNat) k.bits = s := by have := Nat.le_of_ble_eq_true hb; simp; omega
  rw [this, wrap_in h0 h1]
theorem QV.quoP {t yt : TypeId} {x y : Operand} {k : IntKind} {a b : Int} (ho : o.op = .binOp .quo t x y yt) (hx : ev fr x = .int k a) (hy : ev fr y = .int k b) (h0 : 0 ≤ a) (hb : 0 < b) (h1 : a ≤ hiK k) : QV P w0 fr H o (.int k (a / b)) := by
  have e : k.wrap (a.tdiv b) = a / b := by
    rw [Int.tdiv_eq_ediv_of_nonneg h0]
    refine wrap_in ?_ (Int.le_trans (Int.ediv_le_self _ h0) h1)
    have := Int.ediv_nonneg h0 (Int.le_of_lt hb)
    cases k <;> simp only [loK] <;> omega
  exact QV.quo ho hx hy (by omega) e
theorem QV.remP {t yt : TypeId} {x y : Operand} {k : IntKind} {a b : Int} (ho : o.op = .binOp .rem t x y yt) (hx : ev fr x = .int k a) (hy : ev fr y = .int k b) (h0 : 0 ≤ a) (hb : 0 < b) : QV P w0 fr H o (.int k (a % b)) :=
  QV.rem ho hx hy (by omega) (Int.tmod_eq_emod_of_nonneg h0)
/-- A whole number is stored in an element of a row of the call's own. -/
theorem RL.sei (T : Tab P) {t : TypeId} {x y : Operand} {a : Option Addr} {n c e j : Nat} {i : TypeInfo} {ki : IntKind} {z : Int} {xs : List Int} {k : Chunk → List Chunk} (h : RL P w0 N r ops l (putF fr dd undef) ds (k (.row a n c e 1 ((xs.set j z).map (Value.int ki)))) K)
    (ho : o.op = .store t x y := by rfl) (hg : Gd ops fr o := by first | exact Gd.none rfl | exact Gd.yes rfl rfl | exact Gd.yes rfl (congrArg Value.bool (by assumption))) (hdd : o.dst = dd := by rfl) (hN : dstOK N dd = true := by rfl)
    (hx : ev fr x = .pointer (some ((pa a).add (j * 1))) := by rfl) (hi : T.info t = some i := by rfl) (hs : Nat.beq i.size 1 = true := by rfl) (hv : ev fr y = .int ki z := by rfl)
    (hat : At H (.row a n c e 1 (xs.map (Value.int ki))) k := by repeat first | exact At.head _ _ | assumption | exact At.put (by assumption) _ | apply At.tail | apply At.app) (hl : j < xs.length := by omega) : RL P w0 N r ops (o :: l) fr ds H K :=
  RL.step hg hdd hN (NV.store_elem T ho hx hi hs hv rfl hat (by simpa using hl) (by rw [← List.map_set]; exact h))
/-- A row of noughts. -/
theorem RL.mk (T : Tab P) {t e : TypeId} {x y : Operand} {kl kc : IntKind} {n c : Nat} {ie : TypeInfo} {z : Value} (h : ∀ b, RL P w0 N r ops l (putF fr dd (.slice (some ⟨b, 0, none⟩) n c)) ds (.row (some ⟨b, 0, none⟩) n c e 1 (List.replicate n z) :: H) K)
    (ho : o.op = .makeSlice t x y := by rfl) (hg : Gd ops fr o := by first | exact Gd.none rfl | exact Gd.yes rfl rfl | exact Gd.yes rfl (congrArg Value.bool (by assumption))) (hdd : o.dst = dd := by rfl) (hN : dstOK N dd = true := by rfl)
    (hd : T.desc t = some (.slice e) := by rfl) (hi : T.info e = some ie := by rfl) (hz : ie.zero = some z := by rfl) (h1 : z.oneCell' = true := by rfl) (hsz : ie.size = 1 := by rfl)
    (hx : ev fr x = .int kl (n : Int) := by rfl) (hy : ev fr y = .int kc (c : Int) := by rfl) (hn : n ≤ c := by omega) (hc : c ≤ 4398046511104 := by omega) (hbb : Nat.ble ie.bytes 64 = true := by rfl) : RL P w0 N r ops (o :: l) fr ds H K := by
  have hzs : z.cells.toList = [z] := by cases z <;> first | rfl | cases h1
  refine RL.step hg hdd hN (NV.makeSlice T ho hd hi hz hzs (by rw [hsz]; rfl) hx hy hn (by unfold maxLen; omega) (Nat.le_trans (Nat.mul_le_mul (Nat.le_of_ble_eq_true hbb) hc) (by omega)) fun b => ?_)
  rw [hsz]
  have e : (List.replicate n [z]).flatten = List.replicate n z := by
    clear h hx hn
    induction n with
    | zero => rfl
    | succ n ih => rw [List.replicate_succ, List.flatten_cons, ih]; rfl
  rw [e]
  exact h b
theorem Rd.sub3 {a : Option Addr} {n c sz l h : Nat} (m : Nat) {xs : List Value} (hR : Rd w0 H a n c sz xs) (h1 : l ≤ h) (h2 : h ≤ n) (h3 : h ≤ m) : Rd w0 H (subA a l m sz) (h - l) (m - l) sz ((xs.drop (l * sz)).take ((h - l) * sz)) := by
  refine ⟨?_, by omega, fun hp => ?_, fun p hp j v hj => ?_⟩
  · rw [List.length_take, List.length_drop, hR.len]
    apply Nat.min_eq_left
    rw [← Nat.sub_mul]
    exact Nat.mul_le_mul_right _ (by omega)
  · unfold subA
    rw [if_neg (by omega)]
    cases a with
    | none => cases hR.some (by omega)
    | some a => rfl
  · unfold subA at hp
    rw [List.getElem?_take] at hj
    split at hj
    · rename_i hlt
      have hlt' : 0 < h - l := by
        rcases Nat.eq_zero_or_pos (h - l) with h0 | h0
        · rw [h0] at hlt; simp at hlt
        · exact h0
      rw [if_neg (by omega)] at hp
      cases a with
      | none => cases hp
      | some q =>
        cases hp
        rw [add_add]
        rw [List.getElem?_drop] at hj
        exact hR.cell q rfl _ v hj
    · cases hj
/-- A part of a row of whole numbers. -/
theorem Rd.part {a : Option Addr} {n c l h : Nat} {k : IntKind} (m : Nat) {es : List Int} (hR : Rd w0 H a n c 1 (es.map (Value.int k))) (h1 : l ≤ h) (h2 : h ≤ n) (h3 : h ≤ m) : Rd w0 H (subA a l m 1) (h - l) (m - l) 1 (((es.drop l).take (h - l)).map (Value.int k)) := by
  have := Rd.sub3 m hR h1 h2 h3
  rw [Nat.mul_one, Nat.mul_one] at this
  rwa [List.map_take, List.map_drop]
/-- Behind a call all is held somewhere. -/
theorem SC.satR {f : FuncId} {args : Array Value} {R : Value → List Chunk → Prop} (h : SC P w0 f args H fun v H' => (∃ w, Sat w0 w H') → R v H') : SC P w0 f args H R :=
  fun w hw => (h w hw).mono fun _ _ ⟨v, H', e, s, q⟩ => ⟨v, H', e, s, q ⟨_, s⟩⟩
theorem RL.app {G : List Chunk} (h : RL P w0 N r ops l fr ds H K) : RL P w0 N r ops l fr ds (G ++ H) K := fun tmps w idx hi hr hs => h tmps w idx hi hr hs.app
theorem Rd.pre {a : Option Addr} {n c : Nat} {k : IntKind} (h1 : Nat) {es : List Int} (hR : Rd w0 H a n c 1 (es.map (Value.int k))) (h2 : h1 ≤ n) : Rd w0 H (subA a 0 c 1) (h1 - 0) (c - 0) 1 ((es.take h1).map (Value.int k)) := by
  have := Rd.part c hR (Nat.zero_le h1) h2 (Nat.le_trans h2 hR.cap)
  rwa [List.drop_zero, Nat.sub_zero] at this
theorem Rd.suf {a : Option Addr} {n c : Nat} {k : IntKind} (l1 : Nat) {es : List Int} (hR : Rd w0 H a n c 1 (es.map (Value.int k))) (h2 : l1 ≤ n) : Rd w0 H (subA a l1 c 1) (n - l1) (c - l1) 1 ((es.drop l1).map (Value.int k)) := by
  have := Rd.part c hR h2 (Nat.le_refl n) hR.cap
  have hl := hR.len
  rwa [List.take_of_length_le (by simp at hl; simp; omega)] at this
end
theorem Byte.take {es : List Int} (h : Byte es) (k : Nat) : Byte (es.take k) := fun x hx => h x (List.mem_of_mem_take hx)
theorem Byte.drop {es : List Int} (h : Byte es) (k : Nat) : Byte (es.drop k) := fun x hx => h x (List.mem_of_mem_drop hx)
theorem Byte.append {es fs : List Int} (h : Byte es) (h2 : Byte fs) : Byte (es ++ fs) := fun x hx => (List.mem_append.1 hx).elim (h x) (h2 x)
theorem Byte.nil : Byte [] := fun x hx => by cases hx
theorem Byte.one {z : Int} (h0 : 0 ≤ z) (h1 : z ≤ 255) : Byte [z] := fun x hx => by rw [List.mem_singleton.1 hx]; exact ⟨h0, h1⟩
end Go.Sep
