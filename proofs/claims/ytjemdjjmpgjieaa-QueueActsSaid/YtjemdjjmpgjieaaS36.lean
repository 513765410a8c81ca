import Derived.Test.YtjemdjjmpgjieaaS30
set_option linter.unusedVariables false
set_option linter.unusedSimpArgs false
/- Calls through an interface; a value asked out of one. -/
namespace Go.Sep
open Go Go.RowKit
section
variable {P : Program} {w0 : World} {N : Nat} {r : Option Nat} {fr : Fr} {ds : List Deferred} {H : List Chunk} {ops : Array Oper} {l : List Oper} {o : Oper} {K : Cont} {KQ : Fr → Prop} {dd : Option Tmp}
theorem run_tinfo {t : TypeId} {i : TypeInfo} (h : P.info? t = some i) (w : World) : (typeInfo t).run P w = .ok i w := by
  simp [typeInfo, Sem.run_bind, run_program, h]
/-- A method of a pointer's type that takes the value behind it. -/
theorem run_method_val {t elem : TypeId} {name : String} {f : FuncId} {i : TypeInfo} {m : Go.Method} (hi : P.info? t = some i) (hm : i.methods.find? (·.name == name) = some m) (hp : m.path = #[]) (hf : m.func = some (f, false)) (hu : P.underlying t = some (.pointer elem)) (k : Nat) {a : Addr} {v : Value} {w : World}
    (hl : (loadVar elem a).run P w = .ok v w) : (Go.method (k + Made.depth) t (.pointer (some a)) name).run P w = .ok (f, v) w := by
  show (Go.method ((k + 99) + 1) t (.pointer (some a)) name).run P w = _
  generalize k + 99 = q
  have hch : ∀ nm : String, (Builtin.ssaWrapNilChk_ #[t] t #[.pointer (some a), strVal "", strVal nm]).run P w = .ok (.pointer (some a)) w := fun _ => rfl
  simp only [Go.method, Sem.run_bind, run_tinfo hi, Result.andThen_ok, hm, hp, hf]
  simp [follow, receiverAt, run_underlying hu, Place.get, hch, asAddr, hl]
theorem run_method_ptr {t elem : TypeId} {name : String} {f : FuncId} {i : TypeInfo} {m : Go.Method} (hi : P.info? t = some i) (hm : i.methods.find? (·.name == name) = some m) (hp : m.path = #[]) (hf : m.func = some (f, true)) (hu : P.underlying t = some (.pointer elem)) (k : Nat) {v : Value} {w : World} :
    (Go.method (k + Made.depth) t v name).run P w = .ok (f, v) w := by
  show (Go.method ((k + 99) + 1) t v name).run P w = _
  generalize k + 99 = q
  simp only [Go.method, Sem.run_bind, run_tinfo hi, Result.andThen_ok, hm, hp, hf]
  simp [follow, receiverAt, run_underlying hu, Place.get]
/-- A method called through an interface's value. -/
theorem NV.inv {R R' : Value → List Chunk → Prop} {cl : Call} {rc : Operand} {name : String} {t : TypeId} {v rv : Value} {f : FuncId} {as : List Value}
    (ho : o.op = .call cl) (hc : cl.callee = .invoke rc name) (hv : ev fr rc = .iface t v) (hm : ∀ w, Sat w0 w H → (Go.method (P.types.size + Made.depth) t v name).run P w = .ok (f, rv) w) (hf : Fun P f) (ha : evs fr cl.args.toList = as)
    (hS : SC P w0 f (rv :: as).toArray H R') (hk : ∀ v H', R' v H' → R v H') : NV P w0 r fr H o R := by
  subst ha
  refine ⟨fun c hc => (by rw [ho] at hc; cases hc), fun w hw => ?_⟩
  have e1 : #[rv] ++ (cl.args.map (ev fr)) = (rv :: evs fr cl.args.toList).toArray := by
    apply Array.ext'
    simp [← ev_map]
  have e2 : (#[Value.iface t v] ++ cl.args.map (ev fr)).extract 1 (#[Value.iface t v] ++ cl.args.map (ev fr)).size = cl.args.map (ev fr) := by
    apply Array.ext'
    simp [List.take_of_length_le]
  have e3 : (#[Value.iface t v] ++ cl.args.map (ev fr))[0]? = some (Value.iface t v) := by rw [Array.getElem?_append_left (by simp)]; rfl
  have e4 : (resolve (ev fr) cl o.type).run P w = .ok { target := .fn (.method name) #[], args := #[Value.iface t v] ++ cl.args.map (ev fr) } w := by
    unfold resolve
    simp only [hc, hv]
    rfl
  have e5 : (invoke (.fn (.method name) #[]) (#[Value.iface t v] ++ cl.args.map (ev fr))).run P w = (callMethod (.iface t v) name (cl.args.map (ev fr))).run P w := by
    unfold invoke
    simp only [e3, e2]
  have e6 : (callMethod (.iface t v) name (cl.args.map (ev fr))).run P w = (callFunc f (#[rv] ++ cl.args.map (ev fr))).run P w := by
    simp only [callMethod, Sem.run_bind, run_program, Result.andThen_ok, hm w hw]
  simp only [execOp, ho, Sem.run_bind, e4, Result.andThen_ok, e5, e6, e1]
  rw [hf _ w]
  exact (hS w hw).mono fun e w' ⟨v, H', he, hs, hR⟩ => ⟨v, H', he, hs, hk v H' hR⟩
/-- The value of just that type (a struct), out of an interface. -/
theorem QV.tas (T : Tab P) {x : Operand} {t xt : TypeId} {v : Value} {fs : Array Field} (ho : o.op = .typeAssert x xt t false) (hx : ev fr x = .iface t v) (hd : T.desc t = some (.struct fs)) : QV P w0 fr H o v := by
  intro w _
  have h : (Instr.typeAssert (.iface t v) xt t false).run P w = .ok v w := by
    simp [Instr.typeAssert, run_ul T hd, go_sem, Result.andThen]
  simp only [execOp, ho, hx, Sem.run_bind, h, Result.andThen_ok, Sem.run_pure]
end
end Go.Sep

/- A mask of 32 bits; a whole element of a row of the call's own is written. -/
namespace Go.Sep
open Go Go.RowKit
theorem and32 {a b : Nat} (ha : a < 2 ^ 32) (hb : b < 2 ^ 32) : andI .u32 a b = ((a &&& b : Nat) : Int) := by
  have o : ∀ n : Nat, (BitVec.ofInt 32 (n : Int)).toNat = n % 2 ^ 32 := fun n => by rw [BitVec.toNat_ofInt]; omega
  have w : ∀ n : Nat, n < 2 ^ 32 → IntKind.u32.wrap (n : Int) = n := fun n h => wrap_in (by simp only [loK]; omega) (by simp only [hiK]; omega)
  show IntKind.u32.wrap ((BitVec.ofInt 32 (a : Int) &&& BitVec.ofInt 32 (b : Int)).toNat : Int) = _
  rw [BitVec.toNat_and, o, o, Nat.mod_eq_of_lt ha, Nat.mod_eq_of_lt hb, w _ (Nat.and_lt_two_pow _ hb)]
theorem splice_set {α : Type} {enc : α → List Value} {sz : Nat} (hE : ∀ r, (enc r).length = sz) : ∀ (rs : List α) (j : Nat) (q : α), j < rs.length → spliceL (rs.flatMap enc) (j * sz) (enc q) = (rs.set j q).flatMap enc
  | [], j, q, h => by simp at h
  | r :: rs, 0, q, _ => by
    simp only [spliceL, Nat.zero_mul, List.take_zero, List.nil_append, Nat.zero_add, List.set_cons_zero, List.flatMap_cons, hE]
    rw [List.drop_append, ← hE r, List.drop_length, List.nil_append, Nat.sub_self, List.drop_zero]
  | r :: rs, j + 1, q, h => by
    have ih := splice_set hE rs j q (by simpa using h)
    rw [List.set_cons_succ, List.flatMap_cons, List.flatMap_cons, ← ih]
    have e : (j + 1) * sz = sz + j * sz := by rw [Nat.succ_mul]; omega
    simp only [spliceL, e]
    have h1 : (enc r ++ rs.flatMap enc).take (sz + j * sz) = enc r ++ (rs.flatMap enc).take (j * sz) := by rw [List.take_append, List.take_of_length_le (by rw [hE]; omega), hE, Nat.add_sub_cancel_left]
    have h2 : (enc r ++ rs.flatMap enc).drop (sz + j * sz + (enc q).length) = (rs.flatMap enc).drop (j * sz + (enc q).length) := by
      have e2 : sz + j * sz + (enc q).length = (enc r).length + (j * sz + (enc q).length) := by rw [hE r]; omega
      rw [e2, List.drop_append, List.drop_of_length_le (by omega), List.nil_append, Nat.add_sub_cancel_left]
    rw [h1, h2]
    simp [List.append_assoc]
section
variable {P : Program} {w0 : World} {N : Nat} {r : Option Nat} {fr : Fr} {ds : List Deferred} {H : List Chunk} {ops : Array Oper} {l : List Oper} {o : Oper} {K : Cont} {dd : Option Tmp} {α : Type} {enc : α → List Value} {sz : Nat}
theorem QV.mask32 (T : Tab P) {t yt : TypeId} {x y : Operand} {a : Int} {z : Nat} (ho : o.op = .binOp .and t x y yt) (hx : ev fr x = .int .u32 a) (hy : ev fr y = .int .u32 ((2 ^ z - 1 : Nat) : Int)) (h0 : 0 ≤ a) (ha : a < 2 ^ 32) (hz : z < 32) : QV P w0 fr H o (.int .u32 (a % 2 ^ z)) := by
  obtain ⟨n, rfl⟩ := Int.eq_ofNat_of_zero_le h0
  refine QV.intv T ho hx hy ?_
  have h := Nat.pow_lt_pow_right (a := 2) (by omega) hz
  rw [intv_and, and32 (by omega) (by omega), Nat.and_two_pow_sub_one_eq_mod, Int.natCast_emod, Int.natCast_pow]
  rfl
theorem NV.stN (T : Tab P) [E : RowE enc sz] {R : Value → List Chunk → Prop} {t : TypeId} {x y : Operand} {a : Option Addr} {n c e j : Nat} {i : TypeInfo} {rs : List α} {q : α} {k : Chunk → List Chunk}
    (h : R undef (k (.row a n c e sz ((rs.set j q).flatMap enc)))) (ho : o.op = .store t x y := by rfl)
    (hx : ev fr x = .pointer (some ((pa a).add (j * sz))) := by rfl) (hi : T.info t = some i := by rfl) (hv : (ev fr y).cells.toList = enc q := by rfl) (hs : i.size = sz := by rfl) (h0 : 0 < sz := by omega)
    (hat : At H (.row a n c e sz (rs.flatMap enc)) k := by repeat first | exact At.head _ _ | assumption | exact At.put (by assumption) _ | apply At.tail | apply At.app) (hj : j < rs.length := by omega) : NV P w0 r fr H o R := by
  have hlen : ∀ l : List α, (l.flatMap enc).length = l.length * sz := by
    intro l
    induction l with
    | nil => simp
    | cons a l ih => rw [List.flatMap_cons, List.length_append, E.len, ih, List.length_cons, Nat.succ_mul]; omega
  have hle : (j + 1) * sz ≤ rs.length * sz := Nat.mul_le_mul_right _ hj
  rw [Nat.succ_mul] at hle
  refine NV.store_row T ho hx hi hv (by rw [E.len, hs]) (by intro e; have := E.len q; rw [e] at this; simp at this; omega) (List.all_eq_true.2 (E.one q)) hat (by rw [hlen, E.len]; omega) ?_
  rw [splice_set E.len rs j q hj]
  exact h
end
end Go.Sep
