import Derived.Test.YtjemdjjmpgjieaaS16
set_option linter.unusedVariables false
set_option linter.unusedSimpArgs false
/- Rows of structs. -/
namespace Go.Sep
open Go Go.RowKit
/-- An encoding of things as cells, all of one size. -/
class RowE {α : Type} (enc : α → List Value) (sz : outParam Nat) : Prop where
  len : ∀ r, (enc r).length = sz
  one : ∀ r, ∀ u ∈ enc r, u.oneCell' = true
theorem fl_get {α : Type} {enc : α → List Value} {sz : Nat} (hE : ∀ r, (enc r).length = sz) : ∀ (rs : List α) (j o : Nat) (q : α) (v : Value), rs[j]? = some q → (enc q)[o]? = some v → (rs.flatMap enc)[j * sz + o]? = some v
  | [], j, o, q, v, h, _ => by simp at h
  | r :: rs, 0, o, q, v, h, hv => by
    simp only [List.getElem?_cons_zero, Option.some.injEq] at h
    subst h
    rw [List.flatMap_cons, Nat.zero_mul, Nat.zero_add, List.getElem?_append_left]
    · exact hv
    · exact (List.getElem?_eq_some_iff.1 hv).1
  | r :: rs, j + 1, o, q, v, h, hv => by
    have ih := fl_get hE rs j o q v (by simpa using h) hv
    have h2 : (j + 1) * sz = j * sz + sz := Nat.succ_mul j sz
    rw [List.flatMap_cons, List.getElem?_append_right (by rw [hE]; omega), hE, show (j + 1) * sz + o - sz = j * sz + o by omega]
    exact ih
theorem flat_len {α : Type} {enc : α → List Value} {sz : Nat} (hE : ∀ r, (enc r).length = sz) : ∀ rs : List α, (rs.flatMap enc).length = rs.length * sz
  | [] => by simp
  | r :: rs => by rw [List.flatMap_cons, List.length_append, hE, flat_len hE rs, List.length_cons, Nat.succ_mul]; omega
theorem flat_set {α : Type} {enc : α → List Value} {sz : Nat} (hE : ∀ r, (enc r).length = sz) : ∀ (rs : List α) (j o : Nat) (q q' : α) (v : Value), rs[j]? = some q → o < sz → enc q' = (enc q).set o v → (rs.flatMap enc).set (j * sz + o) v = (rs.set j q').flatMap enc
  | [], j, o, q, q', v, h, _, _ => by simp at h
  | r :: rs, 0, o, q, q', v, h, ho, hv => by
    simp only [List.getElem?_cons_zero, Option.some.injEq] at h
    subst h
    rw [List.flatMap_cons, Nat.zero_mul, Nat.zero_add, List.set_append_left _ _ (by rw [hE]; exact ho), ← hv]
    rfl
  | r :: rs, j + 1, o, q, q', v, h, ho, hv => by
    have ih := flat_set hE rs j o q q' v (by simpa using h) ho hv
    have h2 : (j + 1) * sz = j * sz + sz := Nat.succ_mul j sz
    rw [List.flatMap_cons, List.set_append_right _ _ (by rw [hE]; omega), hE, show (j + 1) * sz + o - sz = j * sz + o by omega, ih]
    rfl
theorem get_dflt {α : Type} [Inhabited α] (rs : List α) {j : Nat} (h : j < rs.length) : rs[j]? = some (rs.getD j default) := by
  rw [List.getElem?_eq_getElem h, List.getD_eq_getElem?_getD, List.getElem?_eq_getElem h]
  rfl
section
variable {P : Program} {w0 : World} {N : Nat} {r : Option Nat} {fr : Fr} {ds : List Deferred} {H : List Chunk} {ops : Array Oper} {l : List Oper} {o : Oper} {K : Cont} {KQ : Fr → Prop} {dd : Option Tmp} {α : Type} {enc : α → List Value} {sz : Nat}
theorem rd_elem [E : RowE enc sz] {a : Option Addr} {n c : Nat} {rs : List α} (hR : Rd w0 H a n c sz (rs.flatMap enc)) {j : Nat} {q : α} (hq : rs[j]? = some q) : ∀ (o : Nat) (v : Value), (enc q)[o]? = some v → Cell w0 H (((pa a).add (j * sz)).add o) v :=
  fun o v hv => hR.atN (fl_get E.len rs j o q v hq hv)
theorem QV.leN (T : Tab P) [E : RowE enc sz] {o : Oper} {t : TypeId} {x : Operand} {a : Option Addr} {n c j : Nat} {d : TypeDesc} {i : TypeInfo} {rs : List α} {q : α} {vs : List Value} (ho : o.op = .load t x) (hx : ev fr x = .pointer (some ((pa a).add (j * sz)))) (hd : T.desc t = some d) (ha : isAggD d = true) (hi : T.info t = some i)
    (hl : i.size = vs.length) (hR : Rd w0 H a n c sz (rs.flatMap enc)) (hq : rs[j]? = some q) (hvs : enc q = vs) : QV P w0 fr H o (.agg vs.toArray) := by
  subst hvs
  exact QV.loadN T ho hx hd ha hi hl (rd_elem hR hq)
theorem QV.leF (T : Tab P) [E : RowE enc sz] {o : Oper} {t : TypeId} {x : Operand} {a : Option Addr} {n c j f : Nat} {d : TypeDesc} {rs : List α} {q : α} {v : Value} (ho : o.op = .load t x) (hx : ev fr x = .pointer (some (((pa a).add (j * sz)).add f))) (hd : T.desc t = some d) (ha : isAggD d = false)
    (hR : Rd w0 H a n c sz (rs.flatMap enc)) (hq : rs[j]? = some q) (hv : (enc q)[f]? = some v) : QV P w0 fr H o v :=
  QV.load1 T ho hx hd ha (rd_elem hR hq f v hv)
/-- A whole element is read. -/
theorem RL.leN (T : Tab P) [E : RowE enc sz] {t : TypeId} {x : Operand} {a : Option Addr} {n c j : Nat} {d : TypeDesc} {i : TypeInfo} {rs : List α} {q : α} {vs : List Value} (h : RL P w0 N r ops l (putF fr dd (.agg vs.toArray)) ds H K)
    (ho : o.op = .load t x := by rfl) (hg : Gd ops fr o := by first | exact Gd.none rfl | exact Gd.yes rfl rfl | exact Gd.yes rfl (congrArg Value.bool (by assumption))) (hdd : o.dst = dd := by rfl) (hN : dstOK N dd = true := by rfl)
    (hx : ev fr x = .pointer (some ((pa a).add (j * sz))) := by rfl) (hd : T.desc t = some d := by rfl) (ha : isAggD d = true := by rfl) (hi : T.info t = some i := by rfl)
    (hR : (∃ w, Sat w0 w H) → Rd w0 H a n c sz (rs.flatMap enc) := by intro hs; repeat first | assumption | exact Rd.rowh hs (by repeat first | exact At.head _ _ | apply At.tail | apply At.app) | apply Rd.cons | apply Rd.app | solve_by_elim)
    (hq : rs[j]? = some q := by first | assumption | exact get_dflt _ (by omega)) (hvs : enc q = vs := by rfl) (hl : i.size = vs.length := by rfl) : RL P w0 N r ops (o :: l) fr ds H K :=
  RL.q (QV.sat fun hs => QV.leN T ho hx hd ha hi hl (hR hs) hq hvs) h (fun c hc => by rw [ho] at hc; cases hc) hg hdd hN
/-- A field of an element is read. -/
theorem RL.leF (T : Tab P) [E : RowE enc sz] {t : TypeId} {x : Operand} {a : Option Addr} {n c j f : Nat} {d : TypeDesc} {rs : List α} {q : α} {v : Value} (h : RL P w0 N r ops l (putF fr dd v) ds H K)
    (ho : o.op = .load t x := by rfl) (hg : Gd ops fr o := by first | exact Gd.none rfl | exact Gd.yes rfl rfl | exact Gd.yes rfl (congrArg Value.bool (by assumption))) (hdd : o.dst = dd := by rfl) (hN : dstOK N dd = true := by rfl)
    (hx : ev fr x = .pointer (some (((pa a).add (j * sz)).add f)) := by rfl) (hd : T.desc t = some d := by rfl) (ha : isAggD d = false := by rfl)
    (hR : (∃ w, Sat w0 w H) → Rd w0 H a n c sz (rs.flatMap enc) := by intro hs; repeat first | assumption | exact Rd.rowh hs (by repeat first | exact At.head _ _ | apply At.tail | apply At.app) | apply Rd.cons | apply Rd.app | solve_by_elim)
    (hq : rs[j]? = some q := by first | assumption | exact get_dflt _ (by omega)) (hv : (enc q)[f]? = some v := by rfl) : RL P w0 N r ops (o :: l) fr ds H K :=
  RL.q (QV.sat fun hs => QV.leF T ho hx hd ha (hR hs) hq hv) h (fun c hc => by rw [ho] at hc; cases hc) hg hdd hN
theorem QL.leN (T : Tab P) [E : RowE enc sz] {t : TypeId} {x : Operand} {a : Option Addr} {n c j : Nat} {d : TypeDesc} {i : TypeInfo} {rs : List α} {q : α} {vs : List Value} (h : QL P w0 r ops H l (putF fr dd (.agg vs.toArray)) KQ)
    (ho : o.op = .load t x := by rfl) (hg : Gd ops fr o := by first | exact Gd.none rfl | exact Gd.yes rfl rfl | exact Gd.yes rfl (congrArg Value.bool (by assumption))) (hdd : o.dst = dd := by rfl)
    (hx : ev fr x = .pointer (some ((pa a).add (j * sz))) := by rfl) (hd : T.desc t = some d := by rfl) (ha : isAggD d = true := by rfl) (hi : T.info t = some i := by rfl)
    (hR : (∃ w, Sat w0 w H) → Rd w0 H a n c sz (rs.flatMap enc) := by intro hs; repeat first | assumption | exact Rd.rowh hs (by repeat first | exact At.head _ _ | apply At.tail | apply At.app) | apply Rd.cons | apply Rd.app | solve_by_elim)
    (hq : rs[j]? = some q := by first | assumption | exact get_dflt _ (by omega)) (hvs : enc q = vs := by rfl) (hl : i.size = vs.length := by rfl) : QL P w0 r ops H (o :: l) fr KQ :=
  QL.step hg hdd (QV.sat fun hs => QV.leN T ho hx hd ha hi hl (hR hs) hq hvs) h
theorem QL.leF (T : Tab P) [E : RowE enc sz] {t : TypeId} {x : Operand} {a : Option Addr} {n c j f : Nat} {d : TypeDesc} {rs : List α} {q : α} {v : Value} (h : QL P w0 r ops H l (putF fr dd v) KQ)
    (ho : o.op = .load t x := by rfl) (hg : Gd ops fr o := by first | exact Gd.none rfl | exact Gd.yes rfl rfl | exact Gd.yes rfl (congrArg Value.bool (by assumption))) (hdd : o.dst = dd := by rfl)
    (hx : ev fr x = .pointer (some (((pa a).add (j * sz)).add f)) := by rfl) (hd : T.desc t = some d := by rfl) (ha : isAggD d = false := by rfl)
    (hR : (∃ w, Sat w0 w H) → Rd w0 H a n c sz (rs.flatMap enc) := by intro hs; repeat first | assumption | exact Rd.rowh hs (by repeat first | exact At.head _ _ | apply At.tail | apply At.app) | apply Rd.cons | apply Rd.app | solve_by_elim)
    (hq : rs[j]? = some q := by first | assumption | exact get_dflt _ (by omega)) (hv : (enc q)[f]? = some v := by rfl) : QL P w0 r ops H (o :: l) fr KQ :=
  QL.step hg hdd (QV.sat fun hs => QV.leF T ho hx hd ha (hR hs) hq hv) h
/-- A field of an element of an own row is written. -/
theorem RL.seF (T : Tab P) [E : RowE enc sz] {t : TypeId} {x y : Operand} {a : Option Addr} {n c e j f : Nat} {i : TypeInfo} {v : Value} {rs : List α} {q : α} (q' : α) {k : Chunk → List Chunk} (h : RL P w0 N r ops l (putF fr dd undef) ds (k (.row a n c e sz ((rs.set j q').flatMap enc))) K)
    (ho : o.op = .store t x y := by rfl) (hg : Gd ops fr o := by first | exact Gd.none rfl | exact Gd.yes rfl rfl | exact Gd.yes rfl (congrArg Value.bool (by assumption))) (hdd : o.dst = dd := by rfl) (hN : dstOK N dd = true := by rfl)
    (hx : ev fr x = .pointer (some (((pa a).add (j * sz)).add f)) := by rfl) (hi : T.info t = some i := by rfl) (hs : Nat.beq i.size 1 = true := by rfl) (hv : ev fr y = v := by conv => lhs; whnf) (h1 : v.oneCell' = true := by rfl)
    (hat : At H (.row a n c e sz (rs.flatMap enc)) k := by repeat first | exact At.head _ _ | assumption | exact At.put (by assumption) _ | apply At.tail | apply At.app) (hq : rs[j]? = some q := by first | assumption | exact get_dflt _ (by omega)) (hf : Nat.blt f sz = true := by rfl) (hset : enc q' = (enc q).set f v := by rfl) : RL P w0 N r ops (o :: l) fr ds H K := by
  have hc : v.cells.toList = [v] := by cases v <;> first | rfl | cases h1
  have hf' : f < sz := by simpa [Nat.blt_eq] using hf
  have hlt : j < rs.length := (List.getElem?_eq_some_iff.1 hq).1
  have hm : j * sz + sz ≤ rs.length * sz := by rw [← Nat.succ_mul]; exact Nat.mul_le_mul_right sz hlt
  refine RL.step hg hdd hN (NV.store_row T ho (m := j * sz + f) (by rw [hx, add_add]) hi (vs := [v]) (by rw [hv, hc]) (by simpa using Nat.eq_of_beq_eq_true hs) (by simp) (by simpa using h1) hat (by rw [flat_len E.len]; simp; omega) ?_)
  rw [splice_one _ _ v (by rw [flat_len E.len]; omega), flat_set E.len rs j f q q' v hq hf' hset]
  exact h
/-- Structs that a literal holds are appended: the literal's row goes. -/
theorem RL.apS (T : Tab P) [E : RowE enc sz] {cl : Call} {t e : TypeId} {s x : Operand} {a : Option Addr} {b n c m c2 : Nat} {ie : TypeInfo} {z : Value} {rs : List α} (ys : List α) {news : List Value} {k : Chunk → List Chunk}
    (h : ∀ a' c', RL P w0 N r ops l (putF fr dd (.slice a' (n + m) c')) ds (k (.row a' (n + m) c' e sz ((rs ++ ys).flatMap enc))) K)
    (ho : o.op = .call cl := by rfl) (hg : Gd ops fr o := by first | exact Gd.none rfl | exact Gd.yes rfl rfl | exact Gd.yes rfl (congrArg Value.bool (by assumption))) (hdd : o.dst = dd := by rfl) (hN : dstOK N dd = true := by rfl)
    (hcl : cl = { callee := .builtin .append, args := #[s, x], argTypes := #[t, t] } := by rfl) (hd : T.desc t = some (.slice e) := by rfl) (hi : T.info e = some ie := by rfl) (hz : ie.zero = some z := by rfl)
    (hsz : ie.size = sz := by rfl) (hzs : Nat.beq z.cells.size sz = true := by rfl) (hpos : Nat.blt 0 sz = true := by rfl) (hs : ev fr s = .slice a n c := by rfl) (hx : ev fr x = .slice (some ⟨b, 0, none⟩) m c2 := by rfl)
    (hat : At H (.row a n c e sz (rs.flatMap enc)) k := by repeat first | exact At.head _ _ | assumption | exact At.put (by assumption) _ | apply At.tail | apply At.app)
    (hnews : news = ys.flatMap enc := by rfl) (hbb : (Nat.ble ie.bytes 2048 = true ∧ n + m ≤ 68719476736) ∨ (Nat.ble ie.bytes 32 = true ∧ n + m ≤ 4398046511104) := by first | exact .inl ⟨rfl, by omega⟩ | exact .inr ⟨rfl, by omega⟩) : RL P w0 N r ops (o :: l) fr ds (.row (some ⟨b, 0, none⟩) m c2 e sz news :: H) K := by
  subst hnews
  have hone : ∀ u ∈ ys.flatMap enc, u.oneCell' = true := fun u hu => by
    obtain ⟨y, _, hy⟩ := List.mem_flatMap.1 hu
    exact E.one y u hy
  refine RL.step hg hdd hN (NV.append1 T ho hcl hd hi hz hsz hzs hpos hs hx hat hone (by unfold maxLen; rcases hbb with ⟨_, h⟩ | ⟨_, h⟩ <;> omega) (by rcases hbb with ⟨h1, h2⟩ | ⟨h1, h2⟩ <;> (have := Nat.mul_le_mul h2 (Nat.le_of_ble_eq_true h1); omega)) fun a' c' => ?_)
  have := h a' c'
  rwa [List.flatMap_append] at this
/-- Structs that are read are appended. -/
theorem RL.apR (T : Tab P) [E : RowE enc sz] {cl : Call} {t e : TypeId} {s x : Operand} {a a2 : Option Addr} {n c m c2 : Nat} {ie : TypeInfo} {z : Value} {olds : List Value} (rs : List α) {ys : List α} {k : Chunk → List Chunk}
    (h : ∀ a' c', RL P w0 N r ops l (putF fr dd (.slice a' (n + m) c')) ds (k (.row a' (n + m) c' e sz ((rs ++ ys).flatMap enc))) K)
    (ho : o.op = .call cl := by rfl) (hg : Gd ops fr o := by first | exact Gd.none rfl | exact Gd.yes rfl rfl | exact Gd.yes rfl (congrArg Value.bool (by assumption))) (hdd : o.dst = dd := by rfl) (hN : dstOK N dd = true := by rfl)
    (hcl : cl = { callee := .builtin .append, args := #[s, x], argTypes := #[t, t] } := by rfl) (hd : T.desc t = some (.slice e) := by rfl) (hi : T.info e = some ie := by rfl) (hz : ie.zero = some z := by rfl)
    (hsz : ie.size = sz := by rfl) (hzs : Nat.beq z.cells.size sz = true := by rfl) (hpos : Nat.blt 0 sz = true := by rfl) (hs : ev fr s = .slice a n c := by rfl) (hx : ev fr x = .slice a2 m c2 := by rfl)
    (hat : At H (.row a n c e sz olds) k := by repeat first | exact At.head _ _ | assumption | exact At.put (by assumption) _ | apply At.tail | apply At.app)
    (holds : olds = rs.flatMap enc := by rfl)
    (hR : (∃ w, Sat w0 w H) → Rd w0 H a2 m c2 sz (ys.flatMap enc) := by intro hs; repeat first | assumption | exact Rd.rowh hs (by repeat first | exact At.head _ _ | apply At.tail | apply At.app) | apply Rd.cons | apply Rd.app | solve_by_elim)
    (hbb : (Nat.ble ie.bytes 2048 = true ∧ n + m ≤ 68719476736) ∨ (Nat.ble ie.bytes 32 = true ∧ n + m ≤ 4398046511104) := by first | exact .inl ⟨rfl, by omega⟩ | exact .inr ⟨rfl, by omega⟩) : RL P w0 N r ops (o :: l) fr ds H K := by
  subst holds
  have hone : ∀ u ∈ ys.flatMap enc, u.oneCell' = true := fun u hu => by
    obtain ⟨y, _, hy⟩ := List.mem_flatMap.1 hu
    exact E.one y u hy
  refine RL.step hg hdd hN (NV.sat (fun hsat => NV.append T ho hcl hd hi hz hsz hzs hpos hs hx hat (hR hsat) hone (by unfold maxLen; rcases hbb with ⟨_, h⟩ | ⟨_, h⟩ <;> omega) (by rcases hbb with ⟨h1, h2⟩ | ⟨h1, h2⟩ <;> (have := Nat.mul_le_mul h2 (Nat.le_of_ble_eq_true h1); omega)) fun a' c' => ?_) (fun c hc => by rw [ho] at hc; cases hc))
  have := h a' c'
  rwa [List.flatMap_append] at this
/-- A struct's literal whose last fields are left out. -/
def catz (T : Tab P) (t : TypeId) (parts : List (Nat × Value)) : Option (List Value) :=
  match T.desc t, T.info t with
  | some (.struct fs), some i => match i.zero, placesOf T fs.toList with
    | some z, some pl => match catL (fun j => pl[j]?) 0 parts with
      | some l => cond (Nat.ble l.length z.cells.toList.length) (some (l ++ z.cells.toList.drop l.length)) none
      | none => none
    | _, _ => none
  | _, _ => none
theorem catz_build (T : Tab P) {t : TypeId} {parts : List (Nat × Value)} {l : List Value} (h : catz T t parts = some l) : buildv T t parts = some (.agg l.toArray) := by
  have key : ∀ (place : Nat → Option (Nat × Nat)) (z : Value), (match catL place 0 parts with | some l => cond (Nat.ble l.length z.cells.toList.length) (some (l ++ z.cells.toList.drop l.length)) none | none => none) = some l → (fillL place z.cells.toList parts).map (fun l => Value.agg l.toArray) = some (.agg l.toArray) := by
    intro place z h
    cases hc : catL place 0 parts with
    | none => rw [hc] at h; cases h
    | some l' =>
      rw [hc] at h
      simp only at h
      cases hb : Nat.ble l'.length z.cells.toList.length with
      | false => rw [hb] at h; cases h
      | true =>
        rw [hb] at h
        cases h
        have hl := Nat.le_of_ble_eq_true hb
        rw [catL_fill place parts 0 l' z.cells.toList hc (by omega), Nat.zero_add]
        simp
  unfold catz at h
  unfold buildv
  cases hd : T.desc t with
  | none => simp [hd] at h
  | some d =>
    cases hi : T.info t with
    | none => cases d <;> simp [hd, hi] at h
    | some i =>
      cases hz : i.zero with
      | none => cases d <;> simp [hd, hi, hz] at h
      | some z =>
        cases d with
        | struct fs =>
          cases hp : placesOf T fs.toList with
          | none => simp [hd, hi, hz, hp] at h
          | some pl => simp only [hd, hi, hz, hp] at h ⊢; exact key _ z h
        | _ => simp [hd, hi] at h
theorem NV.buildz (T : Tab P) {o : Oper} {R : Value → List Chunk → Prop} {t : TypeId} {parts : Array (Nat × Operand)} {l : List Value} (ho : o.op = .build t parts) (h : catz T t (evp fr parts.toList) = some l) (hk : R (.agg l.toArray) H) : NV P w0 r fr H o R :=
  QV.nv P w0 r (fun c hc => by rw [ho] at hc; cases hc) (pev_sound T (by rw [ho]; exact catz_build T h)) hk
theorem SW.perm' {c : Code} {Q : Post} {H' : List Chunk} (p : H.Perm H') (h : SW P w0 N r c fr ds H' Q) : SW P w0 N r c fr ds H Q := fun tmps w hr hs => h tmps w hr (hs.perm p)
/-- One road on behind a statement for all its orders, whatever the order in which what it holds came. -/
theorem RD.shareP {β : Type} {W : List (Nat × Nat)} {B : List (List Nat)} {K2 : Fr → List Chunk → Prop} {n : Nat} {done : List Nat} {vals : Nat → Value} (F : β → Nat → Nat → Nat → Fr) (G : β → Nat → Nat → Nat → List Chunk)
    (h1 : (∀ a c b e, ∀ H', H'.Perm (G a c b e) → K2 (F a c b e) H') → RD P w0 r ops W B fr K2 n done vals H) (h2 : ∀ a c b e, ∀ H', H'.Perm (G a c b e) → K2 (F a c b e) H') : RD P w0 r ops W B fr K2 n done vals H := h1 h2
/-- A field of an element of an own row is written. -/
theorem NV.seF (T : Tab P) [E : RowE enc sz] {R : Value → List Chunk → Prop} {t : TypeId} {x y : Operand} {a : Option Addr} {n c e j f : Nat} {i : TypeInfo} {v : Value} {rs : List α} {q : α} (q' : α) {k : Chunk → List Chunk} (h : R undef (k (.row a n c e sz ((rs.set j q').flatMap enc))))
    (ho : o.op = .store t x y := by rfl)
    (hx : ev fr x = .pointer (some (((pa a).add (j * sz)).add f)) := by rfl) (hi : T.info t = some i := by rfl) (hs : Nat.beq i.size 1 = true := by rfl) (hv : ev fr y = v := by conv => lhs; whnf) (h1 : v.oneCell' = true := by rfl)
    (hat : At H (.row a n c e sz (rs.flatMap enc)) k := by repeat first | exact At.head _ _ | assumption | exact At.put (by assumption) _ | apply At.tail | apply At.app) (hq : rs[j]? = some q := by first | assumption | exact get_dflt _ (by omega)) (hf : Nat.blt f sz = true := by rfl) (hset : enc q' = (enc q).set f v := by rfl) : NV P w0 r fr H o R := by
  have hc : v.cells.toList = [v] := by cases v <;> first | rfl | cases h1
  have hf' : f < sz := by simpa [Nat.blt_eq] using hf
  have hlt : j < rs.length := (List.getElem?_eq_some_iff.1 hq).1
  have hm : j * sz + sz ≤ rs.length * sz := by rw [← Nat.succ_mul]; exact Nat.mul_le_mul_right sz hlt
  refine NV.store_row T ho (m := j * sz + f) (by rw [hx, add_add]) hi (vs := [v]) (by rw [hv, hc]) (by simpa using Nat.eq_of_beq_eq_true hs) (by simp) (by simpa using h1) hat (by rw [flat_len E.len]; simp; omega) ?_
  rw [splice_one _ _ v (by rw [flat_len E.len]; omega), flat_set E.len rs j f q q' v hq hf' hset]
  exact h
end
end Go.Sep
