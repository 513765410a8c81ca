import Derived.Test.YtjemdjjmpgjieaaS18
set_option linter.unusedVariables false
set_option linter.unusedSimpArgs false
/- Whole numbers without sign as natural numbers: shifts, masks, differences; arrays in variables at any place. -/
namespace Go.Sep
open Go Go.RowKit
theorem wrap64 {n : Nat} (h : n < 2 ^ 64) : IntKind.u64.wrap (n : Int) = n := wrap_in (by simp only [loK]; omega) (by simp only [hiK]; omega)
theorem ofInt64 (n : Nat) : (BitVec.ofInt 64 (n : Int)).toNat = n % 2 ^ 64 := by
  rw [BitVec.toNat_ofInt]; omega
theorem xor64 {a b : Nat} (ha : a < 2 ^ 64) (hb : b < 2 ^ 64) : xorI .u64 a b = ((a ^^^ b : Nat) : Int) := by
  show IntKind.u64.wrap ((BitVec.ofInt 64 (a : Int) ^^^ BitVec.ofInt 64 (b : Int)).toNat : Int) = _
  rw [BitVec.toNat_xor, ofInt64, ofInt64, Nat.mod_eq_of_lt ha, Nat.mod_eq_of_lt hb, wrap64 (Nat.xor_lt_two_pow ha hb)]
theorem and64 {a b : Nat} (ha : a < 2 ^ 64) (hb : b < 2 ^ 64) : andI .u64 a b = ((a &&& b : Nat) : Int) := by
  show IntKind.u64.wrap ((BitVec.ofInt 64 (a : Int) &&& BitVec.ofInt 64 (b : Int)).toNat : Int) = _
  rw [BitVec.toNat_and, ofInt64, ofInt64, Nat.mod_eq_of_lt ha, Nat.mod_eq_of_lt hb, wrap64 (Nat.and_lt_two_pow _ hb)]
theorem wrap64_mod (n : Nat) : IntKind.u64.wrap (n : Int) = ((n % 2 ^ 64 : Nat) : Int) := by
  show ((n : Int) % 18446744073709551616) = _
  omega
theorem addv (b o n : Nat) : (⟨b, o, none⟩ : Addr).add n = ⟨b, o + n, none⟩ := by
  unfold Addr.add
  split
  · rename_i h; subst h; rfl
  · rfl
section
variable {P : Program} {w0 : World} {N : Nat} {r : Option Nat} {fr : Fr} {ds : List Deferred} {H : List Chunk} {ops : Array Oper} {l : List Oper} {o : Oper} {K : Cont} {dd : Option Tmp}
theorem QV.shrN {t yt : TypeId} {x y : Operand} {yk : IntKind} {a s : Nat} {b : Int} (ho : o.op = .binOp .shr t x y yt) (hx : ev fr x = .int .u64 (a : Int)) (hy : ev fr y = .int yk b) (hs : b = (s : Int)) (hb : s ≤ 64) : QV P w0 fr H o (.int .u64 ((a / 2 ^ s : Nat) : Int)) := by
  subst hs
  refine QV.shift ho hx hy (by omega) (.inr ⟨rfl, ?_⟩)
  have : min ((s : Int).toNat) IntKind.u64.bits = s := by show min ((s : Int).toNat) 64 = s; omega
  rw [this, Int.fdiv_eq_ediv_of_nonneg _ (Int.le_of_lt (Int.pow_pos (by decide)))]
  simp
theorem QV.shlN {t yt : TypeId} {x y : Operand} {yk : IntKind} {a s : Nat} {b : Int} (ho : o.op = .binOp .shl t x y yt) (hx : ev fr x = .int .u64 (a : Int)) (hy : ev fr y = .int yk b) (hs : b = (s : Int)) (hb : s ≤ 64) : QV P w0 fr H o (.int .u64 ((a * 2 ^ s % 2 ^ 64 : Nat) : Int)) := by
  subst hs
  refine QV.shift ho hx hy (by omega) (.inl ⟨rfl, ?_⟩)
  have : min ((s : Int).toNat) IntKind.u64.bits = s := by show min ((s : Int).toNat) 64 = s; omega
  rw [this, ← wrap64_mod]
  simp
theorem QV.one_shl {t yt : TypeId} {x y : Operand} {yk : IntKind} {s : Nat} {b : Int} (ho : o.op = .binOp .shl t x y yt) (hx : ev fr x = .int .u64 1) (hy : ev fr y = .int yk b) (hs : b = (s : Int)) (hb : s < 64) : QV P w0 fr H o (.int .u64 ((2 ^ s : Nat) : Int)) := by
  have h := QV.shlN (P := P) (w0 := w0) (H := H) (a := 1) (s := s) ho hx hy hs (by omega)
  rwa [Nat.one_mul, Nat.mod_eq_of_lt (Nat.pow_lt_pow_right (by omega) hb)] at h
theorem intv_and (k : IntKind) (a b : Int) : intv .and k a b = some (.int k (andI k a b)) := rfl
theorem intv_xor (k : IntKind) (a b : Int) : intv .xor k a b = some (.int k (xorI k a b)) := rfl
theorem QV.intv {op : BinOp} {t yt : TypeId} {x y : Operand} {k : IntKind} {a b : Int} {v : Value} (T : Tab P) (ho : o.op = .binOp op t x y yt) (hx : ev fr x = .int k a) (hy : ev fr y = .int k b) (hm : intv op k a b = some v) : QV P w0 fr H o v := by
  refine pev_sound T ?_
  rw [ho]
  show binv T op t (ev fr x) (ev fr y) = _
  rw [hx, hy]
  show (if k = k then Go.Sep.intv op k a b else none) = _
  rw [if_pos rfl]
  exact hm
theorem QV.sub1 (T : Tab P) {t yt : TypeId} {x y : Operand} {a : Nat} (ho : o.op = .binOp .sub t x y yt) (hx : ev fr x = .int .u64 (a : Int)) (hy : ev fr y = .int .u64 1) (ha : 1 ≤ a) (hb : a < 2 ^ 64) : QV P w0 fr H o (.int .u64 ((a - 1 : Nat) : Int)) := by
  have h := QV.arK (P := P) (w0 := w0) (H := H) (k := .u64) (a := (a : Int)) (b := 1) (m := (a : Int) - 1) ho hx hy rfl (by simp only [loK]; omega) (by simp only [hiK]; omega)
  have e : ((a - 1 : Nat) : Int) = (a : Int) - 1 := by omega
  rw [e]; exact h
theorem QV.mask (T : Tab P) {t yt : TypeId} {x y : Operand} {a z : Nat} (ho : o.op = .binOp .and t x y yt) (hx : ev fr x = .int .u64 (a : Int)) (hy : ev fr y = .int .u64 ((2 ^ z - 1 : Nat) : Int)) (ha : a < 2 ^ 64) (hz : z < 64) : QV P w0 fr H o (.int .u64 ((a % 2 ^ z : Nat) : Int)) := by
  refine QV.intv T ho hx hy ?_
  have h := Nat.pow_lt_pow_right (a := 2) (by omega) hz
  rw [intv_and, and64 ha (by omega), Nat.and_two_pow_sub_one_eq_mod]
theorem QV.and1 (T : Tab P) {t yt : TypeId} {x y : Operand} {a : Nat} (ho : o.op = .binOp .and t x y yt) (hx : ev fr x = .int .u64 (a : Int)) (hy : ev fr y = .int .u64 1) (ha : a < 2 ^ 64) : QV P w0 fr H o (.int .u64 ((a % 2 : Nat) : Int)) := by
  have h := QV.mask (P := P) (w0 := w0) (H := H) (z := 1) T ho hx hy ha (by omega)
  exact h
theorem QV.xorN (T : Tab P) {t yt : TypeId} {x y : Operand} {a b : Nat} (ho : o.op = .binOp .xor t x y yt) (hx : ev fr x = .int .u64 (a : Int)) (hy : ev fr y = .int .u64 (b : Int)) (ha : a < 2 ^ 64) (hb : b < 2 ^ 64) : QV P w0 fr H o (.int .u64 ((a ^^^ b : Nat) : Int)) := by
  refine QV.intv T ho hx hy ?_
  rw [intv_xor, xor64 ha hb]
/-- A place of an array in a variable is read. -/
theorem QV.lva (T : Tab P) {t tb : TypeId} {x : Operand} {b j : Nat} {d : TypeDesc} {k : IntKind} {xs : List Int} {kk : Chunk → List Chunk} (ho : o.op = .load t x) (hx : ev fr x = .pointer (some ((⟨b, 0, none⟩ : Addr).add (j * 1)))) (hd : T.desc t = some d) (ha : isAggD d = false)
    (hat : At H (.var b tb (xs.map (Value.int k))) kk) (hj : j < xs.length) : QV P w0 fr H o (.int k (xs.getD j 0)) := by
  have hx' : ev fr x = .pointer (some ⟨b, 0 + j * 1, none⟩) := by rw [hx, addv]
  exact QV.load_var1 T ho hx' hd ha hat (by rw [Nat.zero_add, Nat.mul_one]; exact map_get xs j hj)
/-- A place of an array in a variable is written. -/
theorem RL.sva (T : Tab P) {t tb : TypeId} {x y : Operand} {b j : Nat} {i : TypeInfo} {ki : IntKind} {z : Int} {xs : List Int} {kk : Chunk → List Chunk} (h : RL P w0 N r ops l (putF fr dd undef) ds (kk (.var b tb ((xs.set j z).map (Value.int ki)))) K)
    (ho : o.op = .store t x y := by rfl) (hx : ev fr x = .pointer (some ((⟨b, 0, none⟩ : Addr).add (j * 1))) := by rfl) (hi : T.info t = some i := by rfl) (hs : Nat.beq i.size 1 = true := by rfl) (hv : ev fr y = .int ki z := by rfl)
    (hat : At H (.var b tb (xs.map (Value.int ki))) kk := by repeat first | exact At.head _ _ | assumption | exact At.put (by assumption) _ | apply At.tail | apply At.app) (hj : j < xs.length := by omega)
    (hg : Gd ops fr o := by first | exact Gd.none rfl | exact Gd.yes rfl rfl | exact Gd.yes rfl (congrArg Value.bool (by assumption))) (hdd : o.dst = dd := by rfl) (hN : dstOK N dd = true := by rfl) : RL P w0 N r ops (o :: l) fr ds H K := by
  have hx' : ev fr x = .pointer (some ⟨b, 0 + j * 1, none⟩) := by rw [hx, addv]
  refine RL.step hg hdd hN (NV.store_var1 T ho hx' hi hs hv rfl hat ?_ ?_ h)
  · rw [Nat.zero_add, Nat.mul_one, List.length_map]; exact (Nat.blt_eq).mpr hj
  · rw [Nat.zero_add, Nat.mul_one, List.map_set]
theorem NV.sva (T : Tab P) {R : Value → List Chunk → Prop} {t tb : TypeId} {x y : Operand} {b j : Nat} {i : TypeInfo} {ki : IntKind} {z : Int} {xs : List Int} {kk : Chunk → List Chunk} (h : R undef (kk (.var b tb ((xs.set j z).map (Value.int ki)))))
    (ho : o.op = .store t x y := by rfl) (hx : ev fr x = .pointer (some ((⟨b, 0, none⟩ : Addr).add (j * 1))) := by rfl) (hi : T.info t = some i := by rfl) (hs : Nat.beq i.size 1 = true := by rfl) (hv : ev fr y = .int ki z := by rfl)
    (hat : At H (.var b tb (xs.map (Value.int ki))) kk := by repeat first | exact At.head _ _ | assumption | exact At.put (by assumption) _ | apply At.tail | apply At.app) (hj : j < xs.length := by omega) : NV P w0 r fr H o R := by
  have hx' : ev fr x = .pointer (some ⟨b, 0 + j * 1, none⟩) := by rw [hx, addv]
  refine NV.store_var1 T ho hx' hi hs hv rfl hat ?_ ?_ h
  · rw [Nat.zero_add, Nat.mul_one, List.length_map]; exact (Nat.blt_eq).mpr hj
  · rw [Nat.zero_add, Nat.mul_one, List.map_set]
/-- A whole array out of its variable, and into it. -/
theorem QV.lvA (T : Tab P) {t tb : TypeId} {x : Operand} {b : Nat} {d : TypeDesc} {i : TypeInfo} {cells : List Value} {kk : Chunk → List Chunk} (ho : o.op = .load t x) (hx : ev fr x = .pointer (some ⟨b, 0, none⟩)) (hd : T.desc t = some d) (ha : isAggD d = true) (hi : T.info t = some i)
    (hat : At H (.var b tb cells) kk) (hl : i.size = cells.length) : QV P w0 fr H o (.agg cells.toArray) := by
  refine QV.loadN T ho hx hd ha hi hl (fun j v hv => Cell.vars (n := cells.length) hat j v ?_)
  rw [List.drop_zero, List.take_length]; exact hv
theorem NV.svA (T : Tab P) {R : Value → List Chunk → Prop} {t tb : TypeId} {x y : Operand} {b : Nat} {i : TypeInfo} {vs cells : List Value} {kk : Chunk → List Chunk} (ho : o.op = .store t x y) (hx : ev fr x = .pointer (some ⟨b, 0, none⟩)) (hi : T.info t = some i) (hv : ev fr y = .agg vs.toArray)
    (hs : i.size = vs.length) (h1 : vs.all Value.oneCell' = true) (hat : At H (.var b tb cells) kk) (hl : vs.length = cells.length) (h : R undef (kk (.var b tb vs))) : NV P w0 r fr H o R := by
  refine NV.store_var T ho hx hi (vs := vs) (by rw [hv]; rfl) hs h1 hat (by omega) ?_ h
  unfold spliceL
  rw [List.take_zero, Nat.zero_add, hl, List.drop_length, List.nil_append, List.append_nil]
theorem ones_all (k : IntKind) (l : List Int) : (l.map (Value.int k)).all Value.oneCell' = true := by
  rw [List.all_eq_true]; exact ones_map k l
theorem RVs.varA (T : Tab P) {a : Tmp} {t : TypeId} {b : Nat} {d : TypeDesc} {i : TypeInfo} {tb : TypeId} {cells : List Value} {k : Chunk → List Chunk} {rs : List ResultVar} {vs : List Value} (h : fr a = .pointer (some ⟨b, 0, none⟩)) (hd : T.desc t = some d) (ha : isAggD d = true) (hi : T.info t = some i)
    (hat : At H (.var b tb cells) k) (hl : i.size = cells.length) (hr : RVs w0 P fr H rs vs) : RVs w0 P fr H (.cell a t :: rs) (.agg cells.toArray :: vs) :=
  RVs.varN T h hd ha hi hat (by rw [hl, List.drop_zero, List.take_length]) hl hr
theorem QV.remN {t yt : TypeId} {x y : Operand} {a b : Nat} {b' : Int} (ho : o.op = .binOp .rem t x y yt) (hx : ev fr x = .int .u64 (a : Int)) (hy : ev fr y = .int .u64 b') (hb : b' = (b : Int)) (h0 : 0 < b) : QV P w0 fr H o (.int .u64 ((a % b : Nat) : Int)) := by
  subst hb
  rw [Int.natCast_emod]
  exact QV.remP ho hx hy (by omega) (by omega)
theorem QV.mulN {t yt : TypeId} {x y : Operand} {a b : Nat} {b' : Int} (ho : o.op = .binOp .mul t x y yt) (hx : ev fr x = .int .u64 (a : Int)) (hy : ev fr y = .int .u64 b') (hb : b' = (b : Int)) (h0 : a * b < 2 ^ 64) : QV P w0 fr H o (.int .u64 ((a * b : Nat) : Int)) := by
  subst hb
  have h := QV.arK (P := P) (w0 := w0) (H := H) (k := .u64) (a := (a : Int)) (b := (b : Int)) (m := (a : Int) * b) ho hx hy rfl (by rw [← Int.natCast_mul]; simp only [loK]; omega) (by rw [← Int.natCast_mul]; simp only [hiK]; omega)
  rw [Int.natCast_mul]; exact h
theorem NV.mkI (T : Tab P) {R : Value → List Chunk → Prop} {t e : TypeId} {x y : Operand} {kl kc : IntKind} {n c : Nat} {ie : TypeInfo} {z : Value} (h : ∀ b, R (.slice (some ⟨b, 0, none⟩) n c) (.row (some ⟨b, 0, none⟩) n c e 1 (List.replicate n z) :: H))
    (ho : o.op = .makeSlice t x y := by rfl)
    (hd : T.desc t = some (.slice e) := by rfl) (hi : T.info e = some ie := by rfl) (hz : ie.zero = some z := by rfl) (h1 : z.oneCell' = true := by rfl) (hsz : ie.size = 1 := by rfl)
    (hx : ev fr x = .int kl (n : Int) := by rfl) (hy : ev fr y = .int kc (c : Int) := by rfl) (hn : n ≤ c := by omega) (hc : c ≤ 4398046511104 := by omega) (hbb : Nat.ble ie.bytes 64 = true := by rfl) : NV P w0 r fr H o R := by
  have hzs : z.cells.toList = [z] := by cases z <;> first | rfl | cases h1
  refine NV.makeSlice T ho hd hi hz hzs (by rw [hsz]; rfl) hx hy hn (by unfold maxLen; omega) (Nat.le_trans (Nat.mul_le_mul (Nat.le_of_ble_eq_true hbb) hc) (by omega)) fun b => ?_
  rw [hsz]
  have e : (List.replicate n [z]).flatten = List.replicate n z := by
    clear h hx hn
    induction n with
    | zero => rfl
    | succ n ih => rw [List.replicate_succ, List.flatten_cons, ih]; rfl
  rw [e]
  exact h b
theorem RD.shareQ2 {W : List (Nat × Nat)} {B : List (List Nat)} {K2 : Fr → List Chunk → Prop} {n : Nat} {done : List Nat} {vals : Nat → Value} (F : Nat → Nat → Fr) (G : Nat → Nat → List Chunk)
    (h1 : (∀ a b, ∀ H', H'.Perm (G a b) → K2 (F a b) H') → RD P w0 r ops W B fr K2 n done vals H) (h2 : ∀ a b, ∀ H', H'.Perm (G a b) → K2 (F a b) H') : RD P w0 r ops W B fr K2 n done vals H := h1 h2
theorem RD.shareQ3 {W : List (Nat × Nat)} {B : List (List Nat)} {K2 : Fr → List Chunk → Prop} {n : Nat} {done : List Nat} {vals : Nat → Value} (F : Nat → Nat → Nat → Fr) (G : Nat → Nat → Nat → List Chunk)
    (h1 : (∀ a b c, ∀ H', H'.Perm (G a b c) → K2 (F a b c) H') → RD P w0 r ops W B fr K2 n done vals H) (h2 : ∀ a b c, ∀ H', H'.Perm (G a b c) → K2 (F a b c) H') : RD P w0 r ops W B fr K2 n done vals H := h1 h2
/-- The least of three. -/
theorem QV.min3 {cl : Call} {x y z : Operand} {k : IntKind} {a b c : Int} {ts : Array TypeId} (ho : o.op = .call cl) (hcl : cl = { callee := .builtin .min, args := #[x, y, z], argTypes := ts }) (hx : ev fr x = .int k a) (hy : ev fr y = .int k b) (hz : ev fr z = .int k c) : QV P w0 fr H o (.int k (min (min a b) c)) := by
  subst hcl
  intro w _
  have e1 : (if b < a then b else a) = min a b := by rw [Int.min_def]; split <;> split <;> omega
  have e2 : (if c < min a b then c else min a b) = min (min a b) c := by rw [Int.min_def (min a b)]; split <;> split <;> omega
  simp [execOp, ho, resolve, invoke, builtin, hx, hy, hz, Builtin.min_, Builtin.min2, e1, e2]
end
end Go.Sep
