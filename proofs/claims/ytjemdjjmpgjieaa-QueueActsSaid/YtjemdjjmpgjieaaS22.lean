import Derived.Test.YtjemdjjmpgjieaaS21
set_option linter.unusedVariables false
set_option linter.unusedSimpArgs false
/- Appends in drawn regions, disjoint bits joined, arrays in variables read and written as slices. -/
namespace Go.Sep
open Go Go.RowKit
section
variable {P : Program} {w0 : World} {N : Nat} {r : Option Nat} {fr : Fr} {ds : List Deferred} {H : List Chunk} {ops : Array Oper} {l : List Oper} {o : Oper} {K : Cont} {dd : Option Tmp}
theorem NV.apI (T : Tab P) {R : Value → List Chunk → Prop} {cl : Call} {t e : TypeId} {s x : Operand} {a a2 : Option Addr} {n c m c2 : Nat} {ki : IntKind} {ie : TypeInfo} {z : Value} {xs ys : List Int} {k : Chunk → List Chunk}
    (h : ∀ a' c', R (.slice a' (n + m) c') (k (.row a' (n + m) c' e 1 ((xs ++ ys).map (Value.int ki)))))
    (ho : o.op = .call cl := by rfl)
    (hcl : cl = { callee := .builtin .append, args := #[s, x], argTypes := #[t, t] } := by rfl) (hd : T.desc t = some (.slice e) := by rfl) (hi : T.info e = some ie := by rfl) (hz : ie.zero = some z := by rfl)
    (hsz : ie.size = 1 := by rfl) (hzs : Nat.beq z.cells.size 1 = true := by rfl) (hs : ev fr s = .slice a n c := by rfl) (hx : ev fr x = .slice a2 m c2 := by rfl)
    (hat : At H (.row a n c e 1 (xs.map (Value.int ki))) k := by repeat first | exact At.head _ _ | assumption | exact At.put (by assumption) _ | apply At.tail | apply At.app)
    (hR : (∃ w, Sat w0 w H) → Rd w0 H a2 m c2 1 (ys.map (Value.int ki)) := by intro hs; repeat first | assumption | exact Rd.rowh hs (by repeat first | exact At.head _ _ | apply At.tail | apply At.app) | apply Rd.cons | apply Rd.app | solve_by_elim)
    (hbb : (Nat.ble ie.bytes 1 = true ∧ n + m ≤ 140737488355328) ∨ (Nat.ble ie.bytes 64 = true ∧ n + m ≤ 2199023255552) := by first | exact .inl ⟨rfl, by omega⟩ | exact .inr ⟨rfl, by omega⟩) : NV P w0 r fr H o R := by
  refine NV.sat (fun hsat => NV.append T ho hcl hd hi hz hsz hzs rfl hs hx hat (hR hsat) (ones_map _ _) (by unfold maxLen; rcases hbb with ⟨_, h⟩ | ⟨_, h⟩ <;> omega) ?_ fun a' c' => ?_) (fun c hc => by rw [ho] at hc; cases hc)
  · rcases hbb with ⟨h1, h2⟩ | ⟨h1, h2⟩ <;> (have := Nat.mul_le_mul h2 (Nat.le_of_ble_eq_true h1); omega)
  · have := h a' c'
    rwa [List.map_append] at this
theorem NV.apI1 (T : Tab P) {R : Value → List Chunk → Prop} {cl : Call} {t e : TypeId} {s x : Operand} {a : Option Addr} {b n c m c2 : Nat} {ki : IntKind} {ie : TypeInfo} {z : Value} {xs ys : List Int} {news : List Value} {k : Chunk → List Chunk}
    (h : ∀ a' c', R (.slice a' (n + m) c') (k (.row a' (n + m) c' e 1 ((xs ++ ys).map (Value.int ki)))))
    (ho : o.op = .call cl := by rfl)
    (hcl : cl = { callee := .builtin .append, args := #[s, x], argTypes := #[t, t] } := by rfl) (hd : T.desc t = some (.slice e) := by rfl) (hi : T.info e = some ie := by rfl) (hz : ie.zero = some z := by rfl)
    (hsz : ie.size = 1 := by rfl) (hzs : Nat.beq z.cells.size 1 = true := by rfl) (hs : ev fr s = .slice a n c := by rfl) (hx : ev fr x = .slice (some ⟨b, 0, none⟩) m c2 := by rfl)
    (hat : At H (.row a n c e 1 (xs.map (Value.int ki))) k := by repeat first | exact At.head _ _ | assumption | exact At.put (by assumption) _ | apply At.tail | apply At.app)
    (hnews : news = ys.map (Value.int ki) := by first | exact (rfl : _ = List.map (Value.int _) [_]) | exact (rfl : _ = List.map (Value.int _) [_, _]) | exact (rfl : _ = List.map (Value.int _) [_, _, _]) | exact (rfl : _ = List.map (Value.int _) [_, _, _, _]) | exact (rfl : _ = List.map (Value.int _) [_, _, _, _, _]))
    (hbb : (Nat.ble ie.bytes 1 = true ∧ n + m ≤ 140737488355328) ∨ (Nat.ble ie.bytes 64 = true ∧ n + m ≤ 2199023255552) := by first | exact .inl ⟨rfl, by omega⟩ | exact .inr ⟨rfl, by omega⟩) : NV P w0 r fr (.row (some ⟨b, 0, none⟩) m c2 e 1 news :: H) o R := by
  subst hnews
  refine NV.append1 T ho hcl hd hi hz hsz hzs rfl hs hx hat (ones_map _ _) (by unfold maxLen; rcases hbb with ⟨_, h⟩ | ⟨_, h⟩ <;> omega) ?_ fun a' c' => ?_
  · rcases hbb with ⟨h1, h2⟩ | ⟨h1, h2⟩ <;> (have := Nat.mul_le_mul h2 (Nat.le_of_ble_eq_true h1); omega)
  · have := h a' c'
    rwa [List.map_append] at this
def isU : IntKind → Bool
  | .u8 | .u16 | .u32 | .u64 => true
  | _ => false
theorem or_disj {k : IntKind} (hk : isU k = true) {a b : Int} {m s : Nat} (ha : a = (m : Int) * 2 ^ s) (h0 : 0 ≤ b) (hb : b < 2 ^ s) (hab : a + b ≤ hiK k) : orI k a b = a + b := by
  obtain ⟨bn, rfl⟩ := Int.eq_ofNat_of_zero_le h0
  have hbn : bn < 2 ^ s := by exact_mod_cast hb
  have ha' : a = ((m * 2 ^ s : Nat) : Int) := by rw [ha]; simp
  subst ha'
  clear ha
  have key : m * 2 ^ s ||| bn = m * 2 ^ s + bn := by
    rw [Nat.mul_comm]; exact (Nat.two_pow_add_eq_or_of_lt hbn m).symm
  have hsum : ((m * 2 ^ s + bn : Nat) : Int) ≤ hiK k := by rw [Int.natCast_add]; exact hab
  have fin : ∀ w : Nat, (m * 2 ^ s + bn) < 2 ^ w → (BitVec.ofInt w ((m * 2 ^ s : Nat) : Int) ||| BitVec.ofInt w (bn : Int)).toNat = m * 2 ^ s + bn := by
    intro w hw
    rw [BitVec.toNat_or]
    have e1 : (BitVec.ofInt w ((m * 2 ^ s : Nat) : Int)).toNat = m * 2 ^ s := by
      rw [BitVec.ofInt_natCast, BitVec.toNat_ofNat, Nat.mod_eq_of_lt (by omega)]
    have e2 : (BitVec.ofInt w (bn : Int)).toNat = bn := by
      rw [BitVec.ofInt_natCast, BitVec.toNat_ofNat, Nat.mod_eq_of_lt (by omega)]
    rw [e1, e2, key]
  unfold orI
  cases k <;> first | (cases hk; done) | skip
  all_goals
    rw [fin _ (by simp only [hiK] at hsum; show _ < 2 ^ _; simp only [IntKind.bits]; omega)]
    rw [wrap_in (by simp only [loK]; omega) hsum, Int.natCast_add]
theorem intv_or (k : IntKind) (a b : Int) : intv .or k a b = some (.int k (orI k a b)) := rfl
/-- High bits and low bits joined. -/
theorem QV.orD (T : Tab P) {t yt : TypeId} {x y : Operand} {k : IntKind} {a b : Int} (m s : Nat) (ho : o.op = .binOp .or t x y yt) (hx : ev fr x = .int k a) (hy : ev fr y = .int k b) (hk : isU k = true) (ha : a = (m : Int) * 2 ^ s) (h0 : 0 ≤ b) (hb : b < 2 ^ s) (hab : a + b ≤ hiK k) : QV P w0 fr H o (.int k (a + b)) := by
  refine QV.intv T ho hx hy ?_
  rw [intv_or, or_disj hk ha h0 hb hab]
/-- A part of a variable of one-cell places is read as a slice. -/
theorem Rd.var {b tb off n c : Nat} {cells : List Value} {k : Chunk → List Chunk} {xs : List Value} (h : At H (.var b tb cells) k) (hx : (cells.drop off).take n = xs) (hn : xs.length = n) (hc : n ≤ c) : Rd w0 H (Option.some ⟨b, off, Option.none⟩) n c 1 xs := by
  subst hx
  refine ⟨by omega, hc, fun _ => rfl, ?_⟩
  intro p hp
  cases hp
  intro j v hv
  have := Cell.vars (w0 := w0) h j v hv
  exact this
theorem QV.wrapU (T : Tab P) {s d : TypeId} {x : Operand} {k k' : IntKind} {n m : Int} {sd : TypeDesc} (ho : o.op = .convert s d x) (hx : ev fr x = .int k n) (hs : T.desc s = some sd) (hd : T.desc d = some (.int k')) (hm : k'.wrap n = m) : QV P w0 fr H o (.int k' m) := by
  subst hm
  refine pev_sound T ?_
  rw [ho]
  simp only [pev, hx, hs, hd]
theorem wrap8_mod (n : Int) : IntKind.u8.wrap n = n % 256 := rfl
theorem wrap16_mod (n : Int) : IntKind.u16.wrap n = n % 65536 := rfl
theorem or_disj' {k : IntKind} (hk : isU k = true) {a b : Int} {m s : Nat} (ha : a = (m : Int) * 2 ^ s) (h0 : 0 ≤ b) (hb : b < 2 ^ s) (hab : a + b ≤ hiK k) : orI k b a = b + a := by
  have e : orI k b a = orI k a b := by unfold orI; rw [BitVec.or_comm]
  rw [e, or_disj hk ha h0 hb hab, Int.add_comm]
theorem QV.orL (T : Tab P) {t yt : TypeId} {x y : Operand} {k : IntKind} {a b : Int} (m s : Nat) (ho : o.op = .binOp .or t x y yt) (hx : ev fr x = .int k b) (hy : ev fr y = .int k a) (hk : isU k = true) (ha : a = (m : Int) * 2 ^ s) (h0 : 0 ≤ b) (hb : b < 2 ^ s) (hab : a + b ≤ hiK k) : QV P w0 fr H o (.int k (b + a)) := by
  refine QV.intv T ho hx hy ?_
  rw [intv_or, or_disj' hk ha h0 hb hab]
theorem sat2 {c d : Chunk} {G : List Chunk} (h : ∃ w, Sat w0 w (c :: d :: G)) : ∃ w, Sat w0 w (c :: G) := by
  obtain ⟨w, hw⟩ := h
  exact ⟨w, (hw.perm (.swap _ _ _)).tail⟩
theorem sat1 {c : Chunk} {G : List Chunk} (h : ∃ w, Sat w0 w (c :: G)) : ∃ w, Sat w0 w G := by
  obtain ⟨w, hw⟩ := h
  exact ⟨w, hw.tail⟩
theorem and1_u8 {a : Int} (h0 : 0 ≤ a) (h1 : a ≤ 255) : andI .u8 a 1 = a % 2 := by
  obtain ⟨n, rfl⟩ := Int.eq_ofNat_of_zero_le h0
  show IntKind.u8.wrap ((BitVec.ofInt 8 (n : Int) &&& BitVec.ofInt 8 1).toNat : Int) = _
  rw [BitVec.toNat_and]
  have e1 : (BitVec.ofInt 8 (n : Int)).toNat = n := by rw [BitVec.ofInt_natCast, BitVec.toNat_ofNat, Nat.mod_eq_of_lt (by omega)]
  have e2 : (BitVec.ofInt 8 1).toNat = 1 := rfl
  rw [e1, e2, Nat.and_one_is_mod]
  have h2 : IntKind.u8.wrap ((n % 2 : Nat) : Int) = ((n % 2 : Nat) : Int) := wrap_in (by simp only [loK]; omega) (by simp only [hiK]; omega)
  rw [h2]; omega
theorem QV.and1b (T : Tab P) {t yt : TypeId} {x y : Operand} {a : Int} (ho : o.op = .binOp .and t x y yt) (hx : ev fr x = .int .u8 a) (hy : ev fr y = .int .u8 1) (h0 : 0 ≤ a) (h1 : a ≤ 255) : QV P w0 fr H o (.int .u8 (a % 2)) := by
  refine QV.intv T ho hx hy ?_
  rw [intv_and, and1_u8 h0 h1]
theorem QV.sl (T : Tab P) {t e : TypeId} {x : Operand} {lo hi : Option Operand} {a : Option Addr} {n c sz l1 h1 : Nat} {ie : TypeInfo} {xs : List Value}
    (ho : o.op = .slice t x lo hi none := by rfl)
    (hx : ev fr x = .slice a n c := by rfl) (hd : T.desc t = some (.slice e) := by rfl) (hi' : T.info e = some ie := by rfl)
    (hlo : BdL fr lo l1 := by first | exact (rfl : _ = 0) | exact ⟨_, _, rfl, rfl⟩ | exact ⟨_, _, rfl, by omega⟩) (hhi : BdH fr n hi h1 := by first | exact (rfl : _ = _) | exact ⟨_, _, rfl, rfl⟩ | exact ⟨_, _, rfl, by omega⟩)
    (hR : (∃ w, Sat w0 w H) → Rd w0 H a n c sz xs := by intro hs; repeat first | assumption | exact Rd.rowh hs (by repeat first | exact At.head _ _ | apply At.tail | apply At.app) | apply Rd.cons | apply Rd.app | solve_by_elim)
    (hb1 : l1 ≤ h1 := by omega) (hb2 : h1 ≤ n := by omega) : QV P w0 fr H o (.slice (subA a l1 c ie.size) (h1 - l1) (c - l1)) :=
  QV.sat fun hs => QV.slice T ho hx hd hi' (by cases lo <;> exact hlo.is) (by cases hi <;> exact hhi.is) hb1 (Nat.le_trans hb2 (hR hs).cap)
theorem RD.shareP1 {β : Type} {W : List (Nat × Nat)} {B : List (List Nat)} {K2 : Fr → List Chunk → Prop} {n : Nat} {done : List Nat} {vals : Nat → Value} (F : β → Nat → Nat → Fr) (G : β → Nat → Nat → List Chunk)
    (h1 : (∀ a c b, ∀ H', H'.Perm (G a c b) → K2 (F a c b) H') → RD P w0 r ops W B fr K2 n done vals H) (h2 : ∀ a c b, ∀ H', H'.Perm (G a c b) → K2 (F a c b) H') : RD P w0 r ops W B fr K2 n done vals H := h1 h2
/-- A whole array in a variable as a slice. -/
theorem QV.slA (T : Tab P) {t e : TypeId} {x : Operand} {b off n : Nat} {ie : TypeInfo} (ho : o.op = .slice t x none none none) (hx : ev fr x = .pointer (some ⟨b, off, none⟩)) (hd : T.desc t = some (.array n e)) (hi : T.info e = some ie) : QV P w0 fr H o (.slice (some ⟨b, off, none⟩) n n) := by
  intro w _
  have ha : (⟨b, off, none⟩ : Addr).add 0 = ⟨b, off, none⟩ := rfl
  simp [execOp, ho, Instr.sliceAt, run_ul T hd, hx, Instr.sureAddr, Instr.sliceBounds, run_size T hi, ha]
/-- copy into a part of a variable. -/
theorem NV.copyV (T : Tab P) {R : Value → List Chunk → Prop} {cl : Call} {t t2 e : TypeId} {s x : Operand} {b off n c m c2 : Nat} {a2 : Option Addr} {tb : TypeId} {ie : TypeInfo} {xs vs cells cells' : List Value} {k : Chunk → List Chunk}
    (ho : o.op = .call cl) (hcl : cl = { callee := .builtin .copy, args := #[s, x], argTypes := #[t, t2] }) (hd : T.desc t = some (.slice e)) (hi : T.info e = some ie) (hsz : ie.size = 1)
    (hs : ev fr s = .slice (some ⟨b, off, none⟩) n c) (hx : ev fr x = .slice a2 m c2) (hat : At H (.var b tb cells) k) (hR : Rd w0 H a2 m c2 1 xs) (hnm : n ≤ m) (hn0 : 0 < n) (hv : xs.take n = vs) (h1 : vs.all Value.oneCell' = true) (hl : off + n ≤ cells.length) (hc : spliceL cells off vs = cells')
    (h : R (.int .i64 (n : Int)) (k (.var b tb cells'))) : NV P w0 r fr H o R := by
  subst hcl hv hc
  refine ⟨fun c hc => (by rw [ho] at hc; cases hc), fun w hw => ?_⟩
  obtain ⟨hB, hb⟩ := hw.holds _ hat.mem
  have hxl := hR.len
  have hsome := hR.some (by omega)
  cases a2 with
  | none => cases hsome
  | some p =>
    have hf : (Builtin.firstCells 1 n (.slice (some p) m c2)).run P w = .ok (xs.take n).toArray w := run_firstCells_some (P := P) w 1 n p m c2 (xs.take n) (by rw [List.length_take]; omega) (fun j v hv => by
      rw [List.getElem?_take] at hv
      split at hv
      · exact hR.cell p rfl j v hv w hw
      · cases hv)
    have hst := run_storeCells_at P b off tb (xs.take n) 0 cells.toArray w hb (by rw [List.length_take]; simp; omega) (fun u hu => List.all_eq_true.1 h1 u hu)
    have hmin : Nat.min m n = n := Nat.min_eq_right hnm
    simp only [execOp, ho, resolve, invoke, builtin, Builtin.copy_, Sem.run_bind, Sem.run_pure, Result.andThen_ok, List.map_toArray, List.map_cons, List.map_nil, hs, hx, run_ul T hd, Builtin.lenOf, run_size T hi, hsz]
    simp only [List.size_toArray, List.length_cons, List.length_nil, Nat.zero_add, Nat.reduceAdd, Nat.lt_add_one, getElem?_pos, List.getElem_toArray, List.getElem_cons_zero, Nat.reduceLT, List.getElem_cons_succ, Sem.run_bind, Sem.run_pure, Result.andThen_ok, run_ul T hd, Builtin.lenOf, hmin, hf, hst, run_size T hi, hsz]
    simp [Nat.add_zero] at hst
    simp [hmin, hf, hst, goInt, run_size T hi, hsz]
    refine ⟨_, ?_, h⟩
    refine Sat.turn hw hat (below_setRow w b _ hB) (fun k hk hne => setRow_other w b k _ (fun e => hne (by simp [Chunk.block, e]))) ⟨hB, ?_⟩ (fun b' hb' => .inl hb')
    unfold spliceL
    simpa using setRow_heap w b _ _ tb (0, 0) hb
end
end Go.Sep
