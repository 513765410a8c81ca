/- Stuff bits: as many bits as are asked for. -/
import Derived.Test.YtilffbgepliamaaP3
set_option linter.unusedVariables false
set_option linter.unusedSimpArgs false
namespace Go.Proofs.Ytilffbgepliamaa.M
open Go Go.Sep Go.Proofs

/-- As many bits as are asked for: these, how many raw ones, an error. -/
def takeF (n : Int) : List Int → List Int → List Int → List Int × Int × Int
  | p, o, [] => if (o.length : Int) < n then ([], 0, 3) else (o, p.length, 0)
  | p, o, b :: l => if (o.length : Int) = n then (o, p.length, 0) else if 5 ≤ (st p).2 then (if b = (st p).1 then ([], 0, 4) else takeF n (p ++ [b]) o l) else takeF n (p ++ [b]) (o ++ [b]) l
/-- What the loops know. -/
structure KI (n : Int) (es : List Int) (k : Nat) (o : List Int) : Prop where
  kn : k ≤ es.length
  all : takeF n (es.take k) o (es.drop k) = takeF n [] [] es
  len : o.length ≤ k
  on : (o.length : Int) ≤ n
  r5 : (st (es.take k)).2 ≤ 5
theorem KI.start {n : Int} {es : List Int} (h : 0 ≤ n) : KI n es 0 [] := ⟨Nat.zero_le _, rfl, Nat.le_refl _, h, by simp [st]⟩
theorem takeF_step {n : Int} {es o : List Int} {k : Nat} (hk : k < es.length) : takeF n (es.take k) o (es.drop k) = if (o.length : Int) = n then (o, (k : Int), 0) else if 5 ≤ (st (es.take k)).2 then (if es.getD k 0 = (st (es.take k)).1 then ([], 0, 4) else takeF n (es.take (k + 1)) o (es.drop (k + 1))) else takeF n (es.take (k + 1)) (o ++ [es.getD k 0]) (es.drop (k + 1)) := by
  rw [drop_cons hk, takeF, take_succ hk]
  have : ((es.take k).length : Int) = k := by rw [List.length_take]; omega
  rw [this]
theorem KI.stuff {n : Int} {es o : List Int} {k : Nat} (h : KI n es k o) (hk : k < es.length) (hl : ¬ (o.length : Int) = n) (hd : (st (es.take k)).2 = 5) (hb : ¬ es.getD k 0 = (st (es.take k)).1) : KI n es (k + 1) o := by
  have h1 := h.len
  refine ⟨hk, ?_, by omega, h.on, ?_⟩
  · rw [← h.all, takeF_step hk, if_neg hl, if_pos (by omega), if_neg hb]
  · rw [take_succ hk, st_app, nxt_ne (fun e => hb e.symm)]; simp
theorem KI.see {n : Int} {es o : List Int} {k : Nat} (h : KI n es k o) (hk : k < es.length) (hl : ¬ (o.length : Int) = n) (hd : ¬ (st (es.take k)).2 = 5) : KI n es (k + 1) (o ++ [es.getD k 0]) := by
  have h1 := h.len
  have h2 := h.on
  have h5 := h.r5
  refine ⟨hk, ?_, by simp; omega, by simp; omega, ?_⟩
  · rw [← h.all, takeF_step hk, if_neg hl, if_neg (by omega)]
  · rw [take_succ hk, st_app]; exact nxt_le (by omega)
theorem KI.bad {n : Int} {es o : List Int} {k : Nat} (h : KI n es k o) (hk : k < es.length) (hl : ¬ (o.length : Int) = n) (hd : (st (es.take k)).2 = 5) (hb : es.getD k 0 = (st (es.take k)).1) : takeF n [] [] es = ([], 0, 4) := by
  rw [← h.all, takeF_step hk, if_neg hl, if_pos (by omega), if_pos hb]
theorem KI.fit {n : Int} {es o : List Int} {k : Nat} (h : KI n es k o) (hl : (o.length : Int) = n) : takeF n [] [] es = (o, (k : Int), 0) := by
  have hkn := h.kn
  rw [← h.all]
  by_cases hk : k < es.length
  · rw [takeF_step hk, if_pos hl]
  · rw [List.drop_eq_nil_of_le (by omega), takeF, if_neg (by omega), List.length_take, Nat.min_eq_left (by omega)]
theorem KI.short {n : Int} {es o : List Int} {k : Nat} (h : KI n es k o) (hk : k = es.length) (hl : (o.length : Int) < n) : takeF n [] [] es = ([], 0, 3) := by
  rw [← h.all, hk, List.drop_length, takeF, if_pos hl]
def takeV (es : List Int) (n : Int) : List Int × Int × Int := if chk es = 0 then (if 0 ≤ n ∧ n ≤ 65536 then takeF n [] [] es else ([], 0, 2)) else ([], 0, 2)
theorem takeF_zero (es : List Int) : takeF 0 [] [] es = ([], 0, 0) := by
  cases es <;> simp [takeF]
theorem takeF_len (n : Int) (es : List Int) (h : 0 ≤ n) : ∀ (l p o : List Int), (o.length : Int) ≤ n → ((takeF n p o l).1.length : Int) ≤ n
  | [], p, o, ho => by unfold takeF; split <;> simp <;> omega
  | b :: l, p, o, ho => by
    unfold takeF
    split
    · simpa using ho
    · split
      · split
        · simpa using h
        · exact takeF_len n es h l _ _ ho
      · exact takeF_len n es h l _ _ (by simp; omega)
theorem takeV_le (es : List Int) (n : Int) : (takeV es n).1.length ≤ 65536 := by
  unfold takeV
  split
  · split
    · rename_i h
      have := takeF_len n es h.1 es [] [] (by simp; omega)
      omega
    · simp
  · simp
/-- A readable row, a number, an error. -/
def RV3 (w0 : World) (H : List Chunk) (o : List Int) (q e : Int) (v : Value) (H' : List Chunk) : Prop := ∃ u, v = .tuple #[u, .int .i64 q, .int .i64 e] ∧ Res w0 H o u H'
end Go.Proofs.Ytilffbgepliamaa.M
