import Derived.Test.YtjemdjjmpgjieaaS12
set_option linter.unusedVariables false
set_option linter.unusedSimpArgs false
/- Statements whose operations turn nothing: whatever their order, a walk in the text's order is enough. -/
namespace Go.Sep
open Go Go.RowKit

section
variable {P : Program} {w0 : World} {N : Nat} {r : Option Nat} {ops : Array Oper} {W : List (Nat × Nat)} {B : List (List Nat)} {fr : Fr} {ds : List Deferred} {H : List Chunk}
/-- An operation that answers so and leaves all that is held as it was: a quiet one, or a call. -/
inductive CVg (P : Program) (w0 : World) (r : Option Nat) (ops : Array Oper) (fr : Fr) (H : List Chunk) (o : Oper) (v : Value) : Prop
  | quiet (h : QVg P w0 ops fr H o v)
  | calm (hq : quietOp o.op = false) (hg : Gd ops fr o) (h : NV P w0 r fr H o fun v' H' => v' = v ∧ H' = H)
/-- A walk in the text's order. -/
def QL (P : Program) (w0 : World) (r : Option Nat) (ops : Array Oper) (H : List Chunk) : List Oper → Fr → (Fr → Prop) → Prop
  | [], fr, K => K fr
  | o :: l, fr, K => ∃ v, CVg P w0 r ops fr H o v ∧ QL P w0 r ops H l (putF fr o.dst v) K

theorem finF_congr {vals vals' : Nat → Value} : ∀ (l : List Oper) (i : Nat) (f : Fr), (∀ j, i ≤ j → j < i + l.length → vals j = vals' j) → finF l i vals f = finF l i vals' f
  | [], _, _, _ => rfl
  | o :: l, i, f, h => by
    simp only [finF]
    rw [h i (Nat.le_refl _) (by simp), finF_congr l (i + 1) _ (fun j h1 h2 => h j (by omega) (by simp; omega))]
theorem finF_snoc (vals : Nat → Value) (o : Oper) : ∀ (l : List Oper) (i : Nat) (f : Fr), finF (l ++ [o]) i vals f = putF (finF l i vals f) o.dst (vals (i + l.length))
  | [], _, _ => rfl
  | x :: l, i, f => by
    simp only [List.cons_append, finF]
    rw [finF_snoc vals o l (i + 1) _]
    simp only [List.length_cons]
    rw [show i + 1 + l.length = i + (l.length + 1) by omega]
theorem QL.vals {K : Fr → Prop} : ∀ (l : List Oper) (i : Nat) (fr : Fr), QL P w0 r ops H l fr K →
    ∃ vals : Nat → Value, (∀ k o, l[k]? = some o → CVg P w0 r ops (finF (l.take k) i vals fr) H o (vals (i + k))) ∧ K (finF l i vals fr)
  | [], i, fr, h => ⟨fun _ => undef, fun k o hk => by simp at hk, h⟩
  | o :: l, i, fr, h => by
    obtain ⟨v, hv, h⟩ := h
    obtain ⟨vals, h1, h2⟩ := QL.vals l (i + 1) _ h
    have hc : ∀ (l' : List Oper) (f : Fr), finF l' (i + 1) (updv vals i v) f = finF l' (i + 1) vals f := fun l' f => finF_congr l' _ f (fun j hj _ => updv_ne (by omega))
    refine ⟨updv vals i v, fun k o' hk => ?_, ?_⟩
    · cases k with
      | zero => simp only [List.getElem?_cons_zero, Option.some.injEq] at hk; subst hk; simpa [finF, updv_eq] using hv
      | succ k =>
        have := h1 k o' (by simpa using hk)
        simp only [List.take_succ_cons, finF, updv_eq, hc]
        rw [show i + (k + 1) = i + 1 + k by omega, updv_ne (by omega)]
        exact this
    · simp only [finF, updv_eq, hc]; exact h2

theorem okW_spec (h : okW ops W = true) {t p : Nat} (hw : wr W t = some p) : ∃ o, ops[p]? = some o ∧ o.dst = some t := by
  unfold wr at hw
  obtain ⟨x, hx, rfl⟩ := Option.map_eq_some_iff.1 hw
  have h1 := List.all_eq_true.1 h x (List.mem_of_find?_eq_some hx)
  have h2 := List.find?_some hx
  cases ho : ops[x.2]? with
  | none => rw [ho] at h1; cases h1
  | some o =>
    rw [ho] at h1
    simp only at h1
    cases hd : o.dst with
    | none => rw [hd] at h1; cases h1
    | some d =>
      rw [hd] at h1
      have h3 := Nat.eq_of_beq_eq_true h1
      have h4 := Nat.eq_of_beq_eq_true h2
      exact ⟨o, rfl, by rw [hd, h3, h4]⟩
/-- What a slot holds behind the first k operations. -/
theorem finF_take (hok : okDraw ops N W B = true) (hW : okW ops W = true) (vals : Nat → Value) (fr : Fr) : ∀ (k : Nat), k ≤ ops.size → ∀ t, finF (ops.toList.take k) 0 vals fr t = match wr W t with | some p => if p < k then vals p else fr t | none => fr t
  | 0, _, t => by simp only [List.take_zero, finF]; split <;> simp
  | k + 1, hk, t => by
    have hlt : k < ops.toList.length := by simp; omega
    have hko : ops[k]? = some ops[k] := Array.getElem?_eq_getElem (by omega)
    rw [List.take_succ_eq_append_getElem hlt, finF_snoc]
    have hlen : (ops.toList.take k).length = k := by rw [List.length_take]; omega
    rw [hlen, Nat.zero_add]
    have ho : ops.toList[k] = ops[k] := by simp
    rw [ho]
    have ih := finF_take hok hW vals fr k (by omega) t
    have h1 := okDraw_spec hok hko
    cases hd : (ops[k]).dst with
    | none =>
      simp only [putF]; rw [ih]
      cases hw : wr W t with
      | none => rfl
      | some p =>
        obtain ⟨o, h2, h3⟩ := okW_spec hW hw
        have : p ≠ k := fun e => by subst e; rw [hko] at h2; cases h2; rw [hd] at h3; cases h3
        simp only []
        by_cases hp : p < k
        · rw [if_pos hp, if_pos (by omega)]
        · rw [if_neg hp, if_neg (by omega)]
    | some d =>
      simp only [putF, upd]
      cases hb : Nat.beq t d with
      | true =>
        have e := Nat.eq_of_beq_eq_true hb
        subst e
        rw [h1.writer t hd]
        simp
      | false =>
        simp only [cond]; rw [ih]
        cases hw : wr W t with
        | none => rfl
        | some p =>
          obtain ⟨o, h2, h3⟩ := okW_spec hW hw
          have : p ≠ k := fun e => by
            subst e; rw [hko] at h2; cases h2; rw [hd] at h3; cases h3
            rw [Nat.beq_refl] at hb; cases hb
          simp only []
          by_cases hp : p < k
          · rw [if_pos hp, if_pos (by omega)]
          · rw [if_neg hp, if_neg (by omega)]
theorem QVg.congr {f g : Fr} {o : Oper} {v : Value} (hs : ∀ cs b, o.op ≠ .select cs b) (h : ∀ t ∈ slotsOf ops o, f t = g t) (hv : QVg P w0 ops f H o v) : QVg P w0 ops g H o v := by
  have he : ∀ x ∈ o.op.operands, ev f x = ev g x := by
    intro x hx
    cases x with
    | tmp t => exact h t (by unfold slotsOf; exact List.mem_append_left _ (List.mem_filterMap.2 ⟨.tmp t, by simpa using hx, rfl⟩))
    | _ => rfl
  cases hv with
  | plain hg hq =>
    refine .plain ?_ (fun w hw => by rw [← execOp_congr o hs he]; exact hq w hw)
    cases hg with
    | none hg => exact .none hg
    | yes hs ht => exact .yes hs ((h _ (gslot_tmp hs)).symm.trans ht)
  | skip hs ht hu => exact .skip hs (by rw [← h _ (gslot_tmp hs)]; exact ht) hu
theorem CVg.congr {f g : Fr} {o : Oper} {v : Value} (hs : ∀ cs b, o.op ≠ .select cs b) (h : ∀ t ∈ slotsOf ops o, f t = g t) (hv : CVg P w0 r ops f H o v) : CVg P w0 r ops g H o v := by
  cases hv with
  | quiet hv => exact .quiet (hv.congr hs h)
  | calm hq hg hn =>
    have he : ∀ x ∈ o.op.operands, ev f x = ev g x := by
      intro x hx
      cases x with
      | tmp t => exact h t (by unfold slotsOf; exact List.mem_append_left _ (List.mem_filterMap.2 ⟨.tmp t, by simpa using hx, rfl⟩))
      | _ => rfl
    refine .calm hq ?_ ⟨hn.1, fun w hw => by rw [← execOp_congr o hs he]; exact hn.2 w hw⟩
    cases hg with
    | none hg => exact .none hg
    | yes hs ht => exact .yes hs ((h _ (gslot_tmp hs)).symm.trans ht)
theorem CVg.nvg {f : Fr} {o : Oper} {v : Value} (hq : quietOp o.op = false) (hd : ∀ c, o.op ≠ .defer c) (hv : CVg P w0 r ops f H o v) : NVg P w0 r ops f H o fun v' H' => v' = v ∧ H' = H := by
  cases hv with
  | quiet hv => cases hv with
    | plain hg h => exact .plain hg (QV.nv _ _ _ hd h ⟨rfl, rfl⟩)
    | skip hs ht hu => exact .skip hs ht ⟨hu.symm, rfl⟩
  | calm _ hg h => exact .plain hg h
theorem CVg.qvg {f : Fr} {o : Oper} {v : Value} (hq : quietOp o.op = true) (hv : CVg P w0 r ops f H o v) : QVg P w0 ops f H o v := by
  cases hv with
  | quiet hv => exact hv
  | calm h _ _ => rw [hq] at h; cases h
theorem NVg.mono {f : Fr} {o : Oper} {R R' : Value → List Chunk → Prop} (h : NVg P w0 r ops f H o R) (hr : ∀ v H', R v H' → R' v H') : NVg P w0 r ops f H o R' := by
  cases h with
  | plain hg h => exact .plain hg (h.mono (hr := hr))
  | skip hs ht h => exact .skip hs ht (hr _ _ h)
theorem RD.ofVals {K : Fr → List Chunk → Prop} (hok : okDraw ops N W B = true) (vals : Nat → Value) (hv : ∀ i o, ops[i]? = some o → CVg P w0 r ops (vw W B fr vals i) H o (vals i)) (hK : K (finF ops.toList 0 vals fr) H) :
    ∀ (n : Nat) (done : List Nat) (vals' : Nat → Value), (∀ p ∈ done, vals' p = vals p) → (∀ i o, ops[i]? = some o → i ∈ done → ∀ j ∈ dirs o, j ∈ done) → ((List.range ops.size).filter fun i => !hasL done i).length < n → RD P w0 r ops W B fr K n done vals' H
  | 0, done, vals', _, _, hn => absurd hn (Nat.not_lt_zero _)
  | n + 1, done, vals', hag, hcl, hn => by
    have next : ∀ i o, ops[i]? = some o → i ∉ done → (∀ j ∈ dirs o, j ∈ done) → RD P w0 r ops W B fr K n (i :: done) (updv vals' i (vals i)) H := by
      intro i o ho hnd hd
      refine RD.ofVals hok vals hv hK n (i :: done) _ (fun p hp => ?_) (fun k o' hk hm j hj => ?_) ?_
      · by_cases e : p = i
        · subst e; exact updv_eq
        · rw [updv_ne e]; exact hag p ((List.mem_cons.1 hp).resolve_left e)
      · rcases List.mem_cons.1 hm with rfl | hm
        · rw [ho] at hk; cases hk; exact List.mem_cons_of_mem _ (hd j hj)
        · exact List.mem_cons_of_mem _ (hcl k o' hk hm j hj)
      · have hi : i < ops.size := (Array.getElem?_eq_some_iff.1 ho).1
        have e : ((List.range ops.size).filter fun j => !hasL (i :: done) j) = (((List.range ops.size).filter fun j => !hasL done j).filter fun j => !Nat.beq j i) := by
          rw [List.filter_filter]
          apply List.filter_congr
          intro j _
          simp [hasL]
        rw [e]
        have hlt : (((List.range ops.size).filter fun j => !hasL done j).filter fun j => !Nat.beq j i).length < ((List.range ops.size).filter fun j => !hasL done j).length := by
          rw [List.length_filter_lt_length_iff_exists]
          refine ⟨i, List.mem_filter.2 ⟨List.mem_range.2 hi, ?_⟩, by simp⟩
          cases hh : hasL done i with
          | false => rfl
          | true => exact absurd (hasL_iff.1 hh) hnd
        omega
    have sees : ∀ i o, ops[i]? = some o → (∀ j ∈ dirs o, j ∈ done) → vw W B fr vals i = vw W B fr vals' i := fun i o ho hd => vw_congr fr fun p hp => (hag p (bef_sub hok (· ∈ done) hcl i o ho hd p hp)).symm
    unfold RD
    cases hq : nextQ ops done with
    | some i =>
      have h1 := List.find?_some hq
      rw [Bool.and_eq_true] at h1
      obtain ⟨hnd, o, ho, hd⟩ := rdy_iff.1 h1.1
      have hqo : quietOp o.op = true := by have := h1.2; unfold isQ at this; rw [ho] at this; exact this
      simp only [ho]
      refine ⟨vals i, ?_, next i o ho hnd hd⟩
      rw [← sees i o ho hd]
      exact (hv i o ho).qvg hqo
    | none =>
      cases hre : readyN ops done with
      | cons i0 l0 =>
        simp only []
        intro i hi
        have hm : i ∈ readyN ops done := hre ▸ hi
        unfold readyN at hm
        obtain ⟨hir, hr⟩ := List.mem_filter.1 hm
        obtain ⟨hnd, o, ho, hd⟩ := rdy_iff.1 hr
        have hqo : quietOp o.op = false := by
          have := nextQ_none hq (List.mem_range.1 hir) hr
          unfold isQ at this; rw [ho] at this; exact this
        simp only [ho]
        have hcv := hv i o ho
        rw [sees i o ho hd] at hcv
        refine (hcv.nvg hqo (okDraw_spec hok ho).nodef).mono ?_
        rintro v H' ⟨rfl, rfl⟩
        refine ⟨?_, next i o ho hnd hd⟩
        have stab : ∀ l : List Nat, (∀ q ∈ l, q ∈ done ∧ isQ ops q = true) → Stab P w0 ops W B fr H' (updv vals' i (vals i)) l := by
          intro l
          induction l with
          | nil => exact fun _ => trivial
          | cons q l ih =>
            intro hl
            refine ⟨?_, ih fun x hx => hl x (List.mem_cons_of_mem _ hx)⟩
            obtain ⟨hqd, hqq⟩ := hl q (by simp)
            cases hoq : ops[q]? with
            | none => trivial
            | some oq =>
              have hne : q ≠ i := fun e => hnd (e ▸ hqd)
              have hdq := hcl q oq hoq hqd
              have hqo' : quietOp oq.op = true := by unfold isQ at hqq; rw [hoq] at hqq; exact hqq
              have h5 := (hv q oq hoq).qvg hqo'
              simp only []
              rw [updv_ne hne, hag q hqd]
              have e2 : vw W B fr vals q = vw W B fr (updv vals' i (vals i)) q := vw_congr fr fun p hp => by
                have hpd := bef_sub hok (· ∈ done) hcl q oq hoq hdq p hp
                have hpi : p ≠ i := fun e => hnd (by rw [← e]; exact hpd)
                rw [updv_ne hpi, hag p hpd]
              rw [← e2]; exact h5
        refine stab _ fun q hq' => ?_
        unfold pend at hq'
        obtain ⟨h6, h7⟩ := List.mem_filter.1 hq'
        rw [Bool.and_eq_true] at h7
        exact ⟨h6, h7.1⟩
      | nil =>
        have hdone : ∀ i, i < ops.size → i ∈ done := by
          intro i
          induction i using Nat.strongRecOn with
          | _ i ih =>
            intro hi
            by_cases hm : i ∈ done
            · exact hm
            · have hio : ops[i]? = some ops[i] := Array.getElem?_eq_getElem hi
              have hr : rdy ops done i = true := rdy_iff.2 ⟨hm, _, hio, fun j hj => ih j ((okDraw_spec hok hio).back j hj) (Nat.lt_trans ((okDraw_spec hok hio).back j hj) hi)⟩
              have : i ∈ readyN ops done := by unfold readyN; exact List.mem_filter.2 ⟨List.mem_range.2 hi, hr⟩
              rw [hre] at this; cases this
        simp only []
        rw [finF_congr ops.toList 0 fr (fun j _ hj => hag j (hdone j (by simpa using hj)))]
        exact hK
/-- A statement that turns nothing. -/
theorem SW.drawQ {id : Nat} {Q : Post} (W : List (Nat × Nat)) (B : List (List Nat)) (hm : P.follows .mixedOrders = true) (hok : okDraw ops N W B = true) (hW : okW ops W = true)
    (h : QL P w0 r ops H ops.toList fr (fun fr' => Q .normal fr' ds H)) : SW P w0 N r (.region id ops true) fr ds H Q := by
  obtain ⟨vals, h1, h2⟩ := QL.vals ops.toList 0 fr h
  refine SW.draw W B hm hok hW (RD.ofVals hok vals (fun i o ho => ?_) h2 _ [] _ (fun p hp => by cases hp) (fun i o _ hm => by cases hm) ?_)
  · have hi : i < ops.size := (Array.getElem?_eq_some_iff.1 ho).1
    have h3 := h1 i o (by simpa using ho)
    rw [Nat.zero_add] at h3
    have hs := okDraw_spec hok ho
    have blt : ∀ (k : Nat) (o' : Oper), ops[k]? = some o' → ∀ j ∈ befOf B k, j < k := fun k o' hk => bef_sub hok (· < k) (fun x ox hx hlt j hj => Nat.lt_trans ((okDraw_spec hok hx).back j hj) hlt) k o' hk (fun j hj => (okDraw_spec hok hk).back j hj)
    refine h3.congr hs.nosel fun t ht => ?_
    rw [finF_take hok hW vals fr i (by omega) t]
    unfold vw
    cases hw : wr W t with
    | none => rfl
    | some p =>
      simp only []
      rcases hs.reads t ht p hw with rfl | hb | hb
      · rw [if_neg (Nat.lt_irrefl _)]
        cases hc : hasL (befOf B p) p with
        | false => rfl
        | true => exact absurd (blt p o ho p (hasL_iff.1 hc)) (Nat.lt_irrefl _)
      · rw [if_pos (blt i o ho p hb), hasL_iff.2 hb]; rfl
      · obtain ⟨o', ho', _⟩ := okW_spec hW hw
        have := blt p o' ho' i hb
        rw [if_neg (by omega)]
        cases hc : hasL (befOf B i) p with
        | false => rfl
        | true => exact absurd (blt i o ho p (hasL_iff.1 hc)) (by omega)
  · have : ((List.range ops.size).filter fun i => !hasL [] i) = List.range ops.size := by
      rw [List.filter_eq_self]; intro i _; rfl
    rw [this, List.length_range]; omega

variable {l : List Oper} {o : Oper} {K : Fr → Prop} {dd : Option Tmp}
theorem QL.step {v : Value} (hg : Gd ops fr o) (hd : o.dst = dd) (hv : QV P w0 fr H o v) (h : QL P w0 r ops H l (putF fr dd v) K) : QL P w0 r ops H (o :: l) fr K := by subst hd; exact ⟨v, .quiet (.plain hg hv), h⟩
theorem QL.skip {d : Nat} {b : Bool} (hs : gslot ops o = some (d, b)) (ht : isNot (fr d) b = true) (h : QL P w0 r ops H l (putF fr o.dst undef) K) : QL P w0 r ops H (o :: l) fr K := ⟨undef, .quiet (.skip hs ht rfl), h⟩
theorem QL.cm {v : Value} (h : QL P w0 r ops H l (putF fr dd v) K) (hn : NV P w0 r fr H o fun v' H' => v' = v ∧ H' = H) (hg : Gd ops fr o := by first | exact Gd.none rfl | exact Gd.yes rfl rfl | exact Gd.yes rfl (congrArg Value.bool (by assumption))) (hd : o.dst = dd := by rfl) (hq : quietOp o.op = false := by rfl) : QL P w0 r ops H (o :: l) fr K := by
  subst hd; exact ⟨v, .calm hq hg hn, h⟩
/-- A call that leaves all as it was. -/
theorem QL.c {v : Value} {cl : Call} {f : Operand} {g : FuncId} {first cap args : Array Value} {as : List Value} (hfun : Fun P g) (hc : (∃ w, Sat w0 w H) → SC P w0 g args H fun v' H' => v' = v ∧ H' = H) (h : QL P w0 r ops H l (putF fr dd v) K)
    (ho : o.op = .call cl := by rfl) (hg : Gd ops fr o := by first | exact Gd.none rfl | exact Gd.yes rfl rfl | exact Gd.yes rfl (congrArg Value.bool (by assumption))) (hdd : o.dst = dd := by rfl)
    (hf : cl.callee = .value f := by rfl) (hv : ev fr f = .func (.func g) first cap := by rfl) (ha : evs fr cl.args.toList = as := by rfl) (hargs : (first.toList ++ as ++ cap.toList).toArray = args := by rfl) : QL P w0 r ops H (o :: l) fr K :=
  QL.cm h (NV.sat (fun hs => NV.call ho hf hv hfun ha hargs (hc hs) fun _ _ e => e) (fun c hc => by rw [ho] at hc; cases hc)) hg hdd (by rw [ho]; unfold quietOp; simp only [hf])
theorem QL.nil (h : K fr) : QL P w0 r ops H [] fr K := h
theorem QV.sat {v : Value} (h : (∃ w, Sat w0 w H) → QV P w0 fr H o v) : QV P w0 fr H o v := fun w hw => h ⟨w, hw⟩ w hw
theorem QL.p (T : Tab P) {v : Value} (h : QL P w0 r ops H l (putF fr dd v) K) (hg : Gd ops fr o := by first | exact Gd.none rfl | exact Gd.yes rfl rfl | exact Gd.yes rfl (congrArg Value.bool (by assumption))) (hd : o.dst = dd := by rfl)
    (hv : pev T fr o.op = some v := by conv => lhs; whnf; arg 1; whnf) : QL P w0 r ops H (o :: l) fr K := QL.step hg hd (pev_sound T hv) h
theorem QL.lv1 (T : Tab P) {t : TypeId} {x : Operand} {b j : Nat} {v : Value} {d : TypeDesc} {tb : TypeId} {cells : List Value} {k : Chunk → List Chunk} (h : QL P w0 r ops H l (putF fr dd v) K)
    (ho : o.op = .load t x := by rfl) (hg : Gd ops fr o := by first | exact Gd.none rfl | exact Gd.yes rfl rfl | exact Gd.yes rfl (congrArg Value.bool (by assumption))) (hdd : o.dst = dd := by rfl)
    (hx : ev fr x = .pointer (some ⟨b, j, none⟩) := by rfl) (hd : T.desc t = some d := by rfl) (ha : isAggD d = false := by rfl)
    (hat : At H (.var b tb cells) k := by repeat first | exact At.head _ _ | assumption | exact At.put (by assumption) _ | apply At.tail | apply At.app) (hv : cells[j]? = some v := by rfl) : QL P w0 r ops H (o :: l) fr K :=
  QL.step hg hdd (QV.load_var1 T ho hx hd ha hat hv) h
theorem QL.lvN (T : Tab P) {t : TypeId} {x : Operand} {b j : Nat} {d : TypeDesc} {i : TypeInfo} {tb : TypeId} {vs cells : List Value} {k : Chunk → List Chunk} (ho : o.op = .load t x) (hx : ev fr x = .pointer (some ⟨b, j, none⟩)) (hd : T.desc t = some d) (ha : isAggD d = true) (hi : T.info t = some i) (hat : At H (.var b tb cells) k) (hv : (cells.drop j).take i.size = vs) (h : QL P w0 r ops H l (putF fr dd (.agg vs.toArray)) K) 
    (hg : Gd ops fr o := by first | exact Gd.none rfl | exact Gd.yes rfl rfl | exact Gd.yes rfl (congrArg Value.bool (by assumption))) (hdd : o.dst = dd := by rfl)
    
    (hl : i.size = vs.length := by rfl) : QL P w0 r ops H (o :: l) fr K :=
  QL.step hg hdd (QV.load_varN T ho hx hd ha hi hat hv hl) h
theorem QL.ix (T : Tab P) {t e : TypeId} {x i : Operand} {a : Option Addr} {n c sz : Nat} {k : IntKind} {j : Int} {jn : Nat} {ie : TypeInfo} {xs : List Value} (h : QL P w0 r ops H l (putF fr dd (.pointer (some ((pa a).add (jn * ie.size))))) K)
    (ho : o.op = .indexAddr t x i := by rfl) (hg : Gd ops fr o := by first | exact Gd.none rfl | exact Gd.yes rfl rfl | exact Gd.yes rfl (congrArg Value.bool (by assumption))) (hdd : o.dst = dd := by rfl)
    (hx : ev fr x = .slice a n c := by rfl) (hi : ev fr i = .int k j := by rfl) (hjn : j.toNat = jn := by conv => { lhs; try simp only [Int.toNat_natCast] }) (hd : T.desc t = some (.slice e) := by rfl) (he : T.info e = some ie := by rfl)
    (hR : (∃ w, Sat w0 w H) → Rd w0 H a n c sz xs := by intro hs; repeat first | assumption | exact Rd.rowh hs (by repeat first | exact At.head _ _ | apply At.tail | apply At.app) | apply Rd.cons | apply Rd.app | solve_by_elim) (h0 : 0 ≤ j := by omega) (h1 : j < n := by omega) : QL P w0 r ops H (o :: l) fr K := by
  subst hjn
  exact QL.step hg hdd (QV.sat fun hs => QV.indexAddr_slice T ho hx hi hd he ((hR hs).some (by omega)) h0 h1) h
theorem QL.ixa (T : Tab P) {t e : TypeId} {x i : Operand} {a : Addr} {n : Nat} {k : IntKind} {j : Int} {jn : Nat} {ie : TypeInfo} (h : QL P w0 r ops H l (putF fr dd (.pointer (some (a.add (jn * ie.size))))) K)
    (ho : o.op = .indexAddr t x i := by rfl) (hg : Gd ops fr o := by first | exact Gd.none rfl | exact Gd.yes rfl rfl | exact Gd.yes rfl (congrArg Value.bool (by assumption))) (hdd : o.dst = dd := by rfl)
    (hx : ev fr x = .pointer (some a) := by rfl) (hi : ev fr i = .int k j := by rfl) (hjn : j.toNat = jn := by conv => { lhs; try simp only [Int.toNat_natCast] }) (hd : T.desc t = some (.array n e) := by rfl) (he : T.info e = some ie := by rfl) (h0 : 0 ≤ j := by omega) (h1 : j < n := by omega) : QL P w0 r ops H (o :: l) fr K := by
  subst hjn
  exact QL.step hg hdd (QV.indexAddr_array T ho hx hi hd he h0 h1) h
theorem QL.le (T : Tab P) {t : TypeId} {x : Operand} {a : Option Addr} {n c : Nat} {j : Nat} {v : Value} {d : TypeDesc} {xs : List Value} (h : QL P w0 r ops H l (putF fr dd v) K)
    (ho : o.op = .load t x := by rfl) (hg : Gd ops fr o := by first | exact Gd.none rfl | exact Gd.yes rfl rfl | exact Gd.yes rfl (congrArg Value.bool (by assumption))) (hdd : o.dst = dd := by rfl)
    (hx : ev fr x = .pointer (some ((pa a).add (j * 1))) := by rfl) (hd : T.desc t = some d := by rfl) (ha : isAggD d = false := by rfl)
    (hR : (∃ w, Sat w0 w H) → Rd w0 H a n c 1 xs := by intro hs; repeat first | assumption | exact Rd.rowh hs (by repeat first | exact At.head _ _ | apply At.tail | apply At.app) | apply Rd.cons | apply Rd.app | solve_by_elim)
    (hv : xs[j]? = some v := by first | exact map_get _ _ (by omega) | assumption | exact rfl) : QL P w0 r ops H (o :: l) fr K :=
  QL.step hg hdd (QV.sat fun hs => QV.load_elem T ho hx hd ha (hR hs) hv) h
theorem QL.ar {op : BinOp} {t yt : TypeId} {x y : Operand} {a b m : Int} (h : QL P w0 r ops H l (putF fr dd (.int .i64 m)) K)
    (ho : o.op = .binOp op t x y yt := by rfl) (hg : Gd ops fr o := by first | exact Gd.none rfl | exact Gd.yes rfl rfl | exact Gd.yes rfl (congrArg Value.bool (by assumption))) (hdd : o.dst = dd := by rfl)
    (hx : ev fr x = .int .i64 a := by rfl) (hy : ev fr y = .int .i64 b := by rfl) (hm : intv op .i64 a b = some (.int .i64 (IntKind.i64.wrap m)) := by rfl) (h1 : -9223372036854775808 ≤ m := by omega) (h2 : m ≤ 9223372036854775807 := by omega) : QL P w0 r ops H (o :: l) fr K :=
  QL.step hg hdd (QV.arith ho hx hy hm h1 h2) h
theorem QL.and {c a e : Operand} {t B : Bool} (h : QL P w0 r ops H l (putF fr dd (.bool (t && B))) K)
    (ho : o.op = .pick c a e := by rfl) (hc : ev fr c = .bool t := by rfl) (ha : ev fr a = cond (t == true) (.bool B) undef := by rfl) (he : ev fr e = .bool false := by rfl)
    (hg : Gd ops fr o := by first | exact Gd.none rfl | exact Gd.yes rfl rfl | exact Gd.yes rfl (congrArg Value.bool (by assumption))) (hd : o.dst = dd := by rfl) : QL P w0 r ops H (o :: l) fr K := by
  refine QL.step hg hd (v := .bool (t && B)) (fun w _ => ?_) h
  cases t <;> simp [execOp, ho, hc, ha, he, asBool] at *
theorem QL.or {c a e : Operand} {t B : Bool} (h : QL P w0 r ops H l (putF fr dd (.bool (t || B))) K)
    (ho : o.op = .pick c a e := by rfl) (hc : ev fr c = .bool t := by rfl) (ha : ev fr a = .bool true := by rfl) (he : ev fr e = cond (t == false) (.bool B) undef := by rfl)
    (hg : Gd ops fr o := by first | exact Gd.none rfl | exact Gd.yes rfl rfl | exact Gd.yes rfl (congrArg Value.bool (by assumption))) (hd : o.dst = dd := by rfl) : QL P w0 r ops H (o :: l) fr K := by
  refine QL.step hg hd (v := .bool (t || B)) (fun w _ => ?_) h
  cases t <;> simp [execOp, ho, hc, ha, he, asBool] at *
theorem QL.split (d : Nat) {t : Bool} (h1 : t = true → QL P w0 r ops H l (upd fr d (.bool true)) K) (h2 : t = false → QL P w0 r ops H l (upd fr d (.bool false)) K) (ht : fr d = .bool t := by rfl) : QL P w0 r ops H l fr K := by
  cases t with
  | true => have := h1 rfl; rwa [upd_self _ _ _ ht] at this
  | false => have := h2 rfl; rwa [upd_self _ _ _ ht] at this
theorem QL.sp {t : Bool} {p q : Prop} (d : Nat) (h1 : p → QL P w0 r ops H l (upd fr d (.bool true)) K) (h2 : q → QL P w0 r ops H l (upd fr d (.bool false)) K) (ht : fr d = .bool t := by rfl)
    (hp : (t = true) = p := by conv => { lhs; try simp only [decide_eq_true_eq, Bool.not_eq_true', decide_eq_false_iff_not, Int.not_lt, Int.not_le, Int.toNat_natCast, Bool.and_eq_true, Bool.or_eq_true, Bool.and_eq_false_iff, Bool.or_eq_false_iff] })
    (hq : (t = false) = q := by conv => { lhs; try simp only [decide_eq_false_iff_not, Bool.not_eq_false', decide_eq_true_eq, Int.not_lt, Int.not_le, Int.toNat_natCast, Bool.and_eq_true, Bool.or_eq_true, Bool.and_eq_false_iff, Bool.or_eq_false_iff] }) : QL P w0 r ops H l fr K :=
  QL.split d (fun h => h1 (hp ▸ h)) (fun h => h2 (hq ▸ h)) ht
theorem QL.skips {l2 : List Oper} {d : Nat} {b t : Bool} (hne : (t == b) = false) : ∀ (l1 : List Oper) (S : List Nat) (fr : Fr), fr d = .bool t → (∀ s, S.any (Nat.beq s) = true → fr s = undef) → skipG ops d b S l1 = true →
    QL P w0 r ops H l2 (und (dstsL l1) fr) K → QL P w0 r ops H (l1 ++ l2) fr K := by
  intro l1
  induction l1 with
  | nil => intro S fr hd hS hs h; exact h
  | cons o l ih =>
    intro S fr hd hS hs h
    unfold skipG at hs
    cases hg : gslot ops o with
    | none => rw [hg] at hs; cases hs
    | some p =>
      obtain ⟨d', b'⟩ := p
      rw [hg] at hs
      simp only [Bool.and_eq_true, Bool.or_eq_true] at hs
      obtain ⟨h1, h2⟩ := hs
      have hnot : isNot (fr d') b' = true := by
        rcases h1 with ⟨h1, h3⟩ | h1
        · rw [Nat.eq_of_beq_eq_true h1, hd, (beq_iff_eq.1 h3)]; simp [isNot, hne]
        · rw [hS d' h1]; rfl
      unfold dstsL at h
      cases hdst : o.dst with
      | none =>
        simp only [hdst] at h2 h
        refine QL.skip hg hnot ?_
        rw [hdst]
        exact ih S fr hd hS h2 h
      | some x =>
        simp only [hdst, Bool.and_eq_true, Bool.not_eq_true'] at h2 h
        refine QL.skip hg hnot ?_
        rw [hdst]
        refine ih (x :: S) (upd fr x undef) ?_ ?_ h2.2 ?_
        · unfold upd
          have : Nat.beq d x = false := by
            cases hb : Nat.beq d x with
            | false => rfl
            | true => have h5 := Nat.eq_of_beq_eq_true hb; subst h5; simp at h2
          rw [this]; exact hd
        · intro s hs'
          simp only [List.any_cons, Bool.or_eq_true] at hs'
          unfold upd
          cases hb : Nat.beq s x with
          | true => rfl
          | false => rcases hs' with hs' | hs'
                     · rw [hb] at hs'; cases hs'
                     · exact hS s hs'
        · have e : und (dstsL l) (upd fr x undef) = und (x :: dstsL l) fr := by
            funext s
            simp only [und, upd, List.any_cons]
            cases Nat.beq s x <;> cases (dstsL l).any (Nat.beq s) <;> rfl
          rw [e]; exact h
theorem QL.join {fr1 : Fr} {t : Bool} (n d : Nat) (b : Bool) (W : List Nat) (h1 : t = b → QL P w0 r ops H (l.drop n) fr1 K → QL P w0 r ops H l fr K) (hm : Mx W fr fr1) (hk : QL P w0 r ops H (l.drop n) (jn W (t == b) fr1 fr) K)
    (hd : fr d = .bool t := by rfl) (hs : skipG ops d b [] (l.take n) = true := by rfl) (hW : dstsL (l.take n) = W := by rfl) : QL P w0 r ops H l fr K := by
  subst hW
  by_cases htb : t = b
  · refine h1 htb ?_
    have e : jn (dstsL (l.take n)) (t == b) fr1 fr = fr1 := by
      funext s
      unfold jn
      rw [show (t == b) = true from beq_iff_eq.2 htb]
      cases hb : (dstsL (l.take n)).any (Nat.beq s) with
      | true => rfl
      | false => exact (hm s hb).symm
    rw [e] at hk
    exact hk
  · have hne : (t == b) = false := by simpa using htb
    rw [← List.take_append_drop n l]
    refine QL.skips hne (l.take n) [] fr hd (fun s hs => by simp at hs) hs ?_
    have e : jn (dstsL (l.take n)) (t == b) fr1 fr = und (dstsL (l.take n)) fr := by
      funext s; unfold jn und; rw [hne]; rfl
    rw [e] at hk
    exact hk
end
end Go.Sep
