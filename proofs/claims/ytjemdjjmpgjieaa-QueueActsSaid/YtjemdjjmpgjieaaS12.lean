import Derived.Test.YtjemdjjmpgjieaaS11
set_option linter.unusedVariables false
set_option linter.unusedSimpArgs false
/- The walker's short steps: rules whose premises find themselves. -/
namespace Go.Sep
open Go Go.RowKit

section
variable {P : Program} {w0 : World} {N : Nat} {r : Option Nat} {fr : Fr} {ds : List Deferred} {H : List Chunk} {ops : Array Oper} {l : List Oper} {o : Oper} {K : Cont} {dd : Option Tmp}
theorem Rd.rowh {a : Option Addr} {n c e sz : Nat} {xs : List Value} {k : Chunk → List Chunk} (hs : ∃ w, Sat w0 w H) (h : At H (.row a n c e sz xs) k) : Rd w0 H a n c sz xs := Rd.row h hs

theorem RL.s (h : NV P w0 r fr H o fun v H' => RL P w0 N r ops l (putF fr dd v) ds H' K) (hg : Gd ops fr o := by first | exact Gd.none rfl | exact Gd.yes rfl rfl | exact Gd.yes rfl (congrArg Value.bool (by assumption))) (hd : o.dst = dd := by rfl) (hN : dstOK N dd = true := by rfl) : RL P w0 N r ops (o :: l) fr ds H K := RL.step hg hd hN h
/-- A variable of one cell is read. -/
theorem RL.lv1 (T : Tab P) {t : TypeId} {x : Operand} {b j : Nat} {v : Value} {d : TypeDesc} {tb : TypeId} {cells : List Value} {k : Chunk → List Chunk} (h : RL P w0 N r ops l (putF fr dd v) ds H K)
    (ho : o.op = .load t x := by rfl) (hg : Gd ops fr o := by first | exact Gd.none rfl | exact Gd.yes rfl rfl | exact Gd.yes rfl (congrArg Value.bool (by assumption))) (hdd : o.dst = dd := by rfl) (hN : dstOK N dd = true := by rfl)
    (hx : ev fr x = .pointer (some ⟨b, j, none⟩) := by rfl) (hd : T.desc t = some d := by rfl) (ha : isAggD d = false := by rfl)
    (hat : At H (.var b tb cells) k := by repeat first | exact At.head _ _ | assumption | exact At.put (by assumption) _ | apply At.tail | apply At.app) (hv : cells[j]? = some v := by rfl) : RL P w0 N r ops (o :: l) fr ds H K :=
  RL.step hg hdd hN (NV.load_var1 T ho hx hd ha hat hv h)
theorem RL.lvN (T : Tab P) {t : TypeId} {x : Operand} {b j : Nat} {d : TypeDesc} {i : TypeInfo} {tb : TypeId} {vs cells : List Value} {k : Chunk → List Chunk} (ho : o.op = .load t x) (hx : ev fr x = .pointer (some ⟨b, j, none⟩)) (hd : T.desc t = some d) (ha : isAggD d = true) (hi : T.info t = some i) (hat : At H (.var b tb cells) k) (hv : (cells.drop j).take i.size = vs) (h : RL P w0 N r ops l (putF fr dd (.agg vs.toArray)) ds H K) 
    (hg : Gd ops fr o := by first | exact Gd.none rfl | exact Gd.yes rfl rfl | exact Gd.yes rfl (congrArg Value.bool (by assumption))) (hdd : o.dst = dd := by rfl) (hN : dstOK N dd = true := by rfl)
    
    (hl : i.size = vs.length := by rfl) : RL P w0 N r ops (o :: l) fr ds H K :=
  RL.step hg hdd hN (NV.load_varN T ho hx hd ha hi hat hv hl h)
theorem RL.sv1 (T : Tab P) {t tb : TypeId} {x y : Operand} {b j : Nat} {i : TypeInfo} {v : Value} {cells cells' : List Value} {k : Chunk → List Chunk} (h : RL P w0 N r ops l (putF fr dd undef) ds (k (.var b tb cells')) K)
    (ho : o.op = .store t x y := by rfl) (hg : Gd ops fr o := by first | exact Gd.none rfl | exact Gd.yes rfl rfl | exact Gd.yes rfl (congrArg Value.bool (by assumption))) (hdd : o.dst = dd := by rfl) (hN : dstOK N dd = true := by rfl)
    (hx : ev fr x = .pointer (some ⟨b, j, none⟩) := by rfl) (hi : T.info t = some i := by rfl) (hs : Nat.beq i.size 1 = true := by rfl) (hv : ev fr y = v := by conv => lhs; whnf)
    (h1 : v.oneCell' = true := by rfl) (hat : At H (.var b tb cells) k := by repeat first | exact At.head _ _ | assumption | exact At.put (by assumption) _ | apply At.tail | apply At.app) (hl : Nat.blt j cells.length = true := by rfl) (hc' : cells.set j v = cells' := by first | conv => { lhs; simp only [List.set_cons_zero, List.set_cons_succ] } | rfl) : RL P w0 N r ops (o :: l) fr ds H K :=
  RL.step hg hdd hN (NV.store_var1 T ho hx hi hs hv h1 hat hl hc' h)
/-- A slice's element's address. -/
theorem RL.ix (T : Tab P) {t e : TypeId} {x i : Operand} {a : Option Addr} {n c sz : Nat} {k : IntKind} {j : Int} {jn : Nat} {ie : TypeInfo} {xs : List Value} (h : RL P w0 N r ops l (putF fr dd (.pointer (some ((pa a).add (jn * ie.size))))) ds H K)
    (ho : o.op = .indexAddr t x i := by rfl) (hg : Gd ops fr o := by first | exact Gd.none rfl | exact Gd.yes rfl rfl | exact Gd.yes rfl (congrArg Value.bool (by assumption))) (hdd : o.dst = dd := by rfl) (hN : dstOK N dd = true := by rfl)
    (hx : ev fr x = .slice a n c := by rfl) (hi : ev fr i = .int k j := by rfl) (hjn : j.toNat = jn := by conv => { lhs; try simp only [Int.toNat_natCast] }) (hd : T.desc t = some (.slice e) := by rfl) (he : T.info e = some ie := by rfl)
    (hR : (∃ w, Sat w0 w H) → Rd w0 H a n c sz xs := by intro hs; repeat first | assumption | exact Rd.rowh hs (by repeat first | exact At.head _ _ | apply At.tail | apply At.app) | apply Rd.cons | apply Rd.app | solve_by_elim) (h0 : 0 ≤ j := by omega) (h1 : j < n := by omega) : RL P w0 N r ops (o :: l) fr ds H K := by
  subst hjn
  exact RL.step hg hdd hN (NV.sat (fun hs => NV.index_slice T ho hx hi hd he (hR hs) h0 h1 h) (fun c hc => by rw [ho] at hc; cases hc))
theorem RL.ixa (T : Tab P) {t e : TypeId} {x i : Operand} {a : Addr} {n : Nat} {k : IntKind} {j : Int} {jn : Nat} {ie : TypeInfo} (h : RL P w0 N r ops l (putF fr dd (.pointer (some (a.add (jn * ie.size))))) ds H K)
    (ho : o.op = .indexAddr t x i := by rfl) (hg : Gd ops fr o := by first | exact Gd.none rfl | exact Gd.yes rfl rfl | exact Gd.yes rfl (congrArg Value.bool (by assumption))) (hdd : o.dst = dd := by rfl) (hN : dstOK N dd = true := by rfl)
    (hx : ev fr x = .pointer (some a) := by rfl) (hi : ev fr i = .int k j := by rfl) (hjn : j.toNat = jn := by conv => { lhs; try simp only [Int.toNat_natCast] }) (hd : T.desc t = some (.array n e) := by rfl) (he : T.info e = some ie := by rfl) (h0 : 0 ≤ j := by omega) (h1 : j < n := by omega) : RL P w0 N r ops (o :: l) fr ds H K := by
  subst hjn
  exact RL.step hg hdd hN (NV.index_array T ho hx hi hd he h0 h1 h)
/-- An element of one cell is read. -/
theorem RL.le (T : Tab P) {t : TypeId} {x : Operand} {a : Option Addr} {n c : Nat} {j : Nat} {v : Value} {d : TypeDesc} {xs : List Value} (h : RL P w0 N r ops l (putF fr dd v) ds H K)
    (ho : o.op = .load t x := by rfl) (hg : Gd ops fr o := by first | exact Gd.none rfl | exact Gd.yes rfl rfl | exact Gd.yes rfl (congrArg Value.bool (by assumption))) (hdd : o.dst = dd := by rfl) (hN : dstOK N dd = true := by rfl)
    (hx : ev fr x = .pointer (some ((pa a).add (j * 1))) := by rfl) (hd : T.desc t = some d := by rfl) (ha : isAggD d = false := by rfl)
    (hR : (∃ w, Sat w0 w H) → Rd w0 H a n c 1 xs := by intro hs; repeat first | assumption | exact Rd.rowh hs (by repeat first | exact At.head _ _ | apply At.tail | apply At.app) | apply Rd.cons | apply Rd.app | solve_by_elim)
    (hv : xs[j]? = some v := by first | exact map_get _ _ (by omega) | assumption | exact rfl) : RL P w0 N r ops (o :: l) fr ds H K :=
  RL.step hg hdd hN (NV.sat (fun hs => NV.load_elem T ho hx hd ha (hR hs) hv h) (fun c hc => by rw [ho] at hc; cases hc))
/-- Sums, differences, products that stay within bounds. -/
theorem RL.ar {op : BinOp} {t yt : TypeId} {x y : Operand} {a b m : Int} (h : RL P w0 N r ops l (putF fr dd (.int .i64 m)) ds H K)
    (ho : o.op = .binOp op t x y yt := by rfl) (hg : Gd ops fr o := by first | exact Gd.none rfl | exact Gd.yes rfl rfl | exact Gd.yes rfl (congrArg Value.bool (by assumption))) (hdd : o.dst = dd := by rfl) (hN : dstOK N dd = true := by rfl)
    (hx : ev fr x = .int .i64 a := by rfl) (hy : ev fr y = .int .i64 b := by rfl) (hm : intv op .i64 a b = some (.int .i64 (IntKind.i64.wrap m)) := by rfl) (h1 : -9223372036854775808 ≤ m := by omega) (h2 : m ≤ 9223372036854775807 := by omega) : RL P w0 N r ops (o :: l) fr ds H K :=
  RL.step hg hdd hN (NV.arith ho hx hy hm h1 h2 h)
/-- A call of a function with a contract. -/
theorem RL.c {R' : Value → List Chunk → Prop} {cl : Call} {f : Operand} {g : FuncId} {first cap args : Array Value} {as : List Value} (hfun : Fun P g) (hc : (∃ w, Sat w0 w H) → SC P w0 g args H R') (h : ∀ v H', R' v H' → RL P w0 N r ops l (putF fr dd v) ds H' K)
    (ho : o.op = .call cl := by rfl) (hg : Gd ops fr o := by first | exact Gd.none rfl | exact Gd.yes rfl rfl | exact Gd.yes rfl (congrArg Value.bool (by assumption))) (hdd : o.dst = dd := by rfl) (hN : dstOK N dd = true := by rfl)
    (hf : cl.callee = .value f := by rfl) (hv : ev fr f = .func (.func g) first cap := by rfl) (ha : evs fr cl.args.toList = as := by rfl) (hargs : (first.toList ++ as ++ cap.toList).toArray = args := by rfl) : RL P w0 N r ops (o :: l) fr ds H K :=
  RL.step hg hdd hN (NV.sat (fun hs => NV.call ho hf hv hfun ha hargs (hc hs) h) (fun c hc => by rw [ho] at hc; cases hc))
/-- Where a guard's value isn't known: two ways. -/
theorem RL.sp {t : Bool} {p q : Prop} (d : Nat) (h1 : p → RL P w0 N r ops l (upd fr d (.bool true)) ds H K) (h2 : q → RL P w0 N r ops l (upd fr d (.bool false)) ds H K) (ht : fr d = .bool t := by rfl)
    (hp : (t = true) = p := by conv => { lhs; try simp only [decide_eq_true_eq, Bool.not_eq_true', decide_eq_false_iff_not, Int.not_lt, Int.not_le, Int.toNat_natCast, Bool.and_eq_true, Bool.or_eq_true, Bool.and_eq_false_iff, Bool.or_eq_false_iff] })
    (hq : (t = false) = q := by conv => { lhs; try simp only [decide_eq_false_iff_not, Bool.not_eq_false', decide_eq_true_eq, Int.not_lt, Int.not_le, Int.toNat_natCast, Bool.and_eq_true, Bool.or_eq_true, Bool.and_eq_false_iff, Bool.or_eq_false_iff] }) : RL P w0 N r ops l fr ds H K :=
  RL.split d ht (fun h => h1 (hp ▸ h)) (fun h => h2 (hq ▸ h))
theorem SW.cs {c : Operand} {x y : Code} {Q : Post} {t : Bool} {p q : Prop} (h1 : p → SW P w0 N r x fr ds H Q) (h2 : q → SW P w0 N r y fr ds H Q) (hc : ev fr c = .bool t := by rfl)
    (hp : (t = true) = p := by conv => { lhs; try simp only [decide_eq_true_eq, Bool.not_eq_true', decide_eq_false_iff_not, Int.not_lt, Int.not_le, Int.toNat_natCast, Bool.and_eq_true, Bool.or_eq_true, Bool.and_eq_false_iff, Bool.or_eq_false_iff] })
    (hq : (t = false) = q := by conv => { lhs; try simp only [decide_eq_false_iff_not, Bool.not_eq_false', decide_eq_true_eq, Int.not_lt, Int.not_le, Int.toNat_natCast, Bool.and_eq_true, Bool.or_eq_true, Bool.and_eq_false_iff, Bool.or_eq_false_iff] }) : SW P w0 N r (.cond c x y) fr ds H Q :=
  SW.cond hc (fun h => h1 (hp ▸ h)) (fun h => h2 (hq ▸ h))
/-- A function's end. -/
theorem retQ.rr {rs : List ResultVar} {R : Value → List Chunk → Prop} {vs : List Value} (H' : List Chunk) (h : R (resV vs) H') (hv : RVs w0 P fr H rs vs := by first | exact (RVs.tmp (by conv => lhs; whnf) RVs.nil) | exact (RVs.tmp (by conv => lhs; whnf) (RVs.tmp (by conv => lhs; whnf) RVs.nil)) | exact RVs.nil | exact (RVs.tmp (by conv => lhs; whnf) (RVs.tmp (by conv => lhs; whnf) (RVs.tmp (by conv => lhs; whnf) RVs.nil))) | exact (RVs.tmp (by conv => lhs; whnf) (RVs.tmp (by conv => lhs; whnf) (RVs.tmp (by conv => lhs; whnf) (RVs.tmp (by conv => lhs; whnf) RVs.nil)))))
    (hH : ∀ w, Sat w0 w H → Sat w0 w H' := by intro w hw; first | exact hw | exact Sat.sub (by repeat first | exact List.Sublist.refl _ | apply List.Sublist.cons_cons | apply List.Sublist.cons | exact List.sublist_append_right _ _ | refine List.Sublist.trans ?_ (List.sublist_append_right _ _)) hw) : retQ P w0 rs R .ret fr [] H := retQ.ret hv hH h
theorem retQ.nn {rs : List ResultVar} {R : Value → List Chunk → Prop} {vs : List Value} (H' : List Chunk) (h : R (resV vs) H') (hv : RVs w0 P fr H rs vs := by first | exact (RVs.tmp (by conv => lhs; whnf) RVs.nil) | exact (RVs.tmp (by conv => lhs; whnf) (RVs.tmp (by conv => lhs; whnf) RVs.nil)) | exact RVs.nil | exact (RVs.tmp (by conv => lhs; whnf) (RVs.tmp (by conv => lhs; whnf) (RVs.tmp (by conv => lhs; whnf) RVs.nil))) | exact (RVs.tmp (by conv => lhs; whnf) (RVs.tmp (by conv => lhs; whnf) (RVs.tmp (by conv => lhs; whnf) (RVs.tmp (by conv => lhs; whnf) RVs.nil)))))
    (hH : ∀ w, Sat w0 w H → Sat w0 w H' := by intro w hw; first | exact hw | exact Sat.sub (by repeat first | exact List.Sublist.refl _ | apply List.Sublist.cons_cons | apply List.Sublist.cons | exact List.sublist_append_right _ _ | refine List.Sublist.trans ?_ (List.sublist_append_right _ _)) hw) : retQ P w0 rs R .normal fr [] H := retQ.norm hv hH h
end
end Go.Sep
