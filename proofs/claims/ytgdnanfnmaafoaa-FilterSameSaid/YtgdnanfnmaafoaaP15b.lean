/- The least bank. -/
import Derived.Test.YtgdnanfnmaafoaaS19
import Derived.Test.YtgdnanfnmaafoaaP15
set_option linter.unusedVariables false
set_option linter.unusedSimpArgs false
namespace Go.Sep
open Go
deriving instance DecidableEq for Rul
def kR (q : Rul) : Rul := ⟨q.kinds, q.id, q.idm, q.sdt, q.sdtm, q.vcid, q.vcidm, q.af, q.afm, false⟩
/-- What is held against each other cell by cell. -/
def eqR (q p : Rul) : Bool := decide (q.kinds = p.kinds) && (decide (q.id = p.id) && (decide (q.idm = p.idm) && (decide (q.sdt = p.sdt) && (decide (q.sdtm = p.sdtm) && (decide (q.vcid = p.vcid) && (decide (q.vcidm = p.vcidm) && (decide (q.af = p.af) && (decide (q.afm = p.afm) && ((q.inn == p.inn) && true)))))))))
theorem eqR_iff (q p : Rul) : eqR q p = decide (q = p) := by
  rw [Bool.eq_iff_iff]
  unfold eqR
  cases q; cases p
  simp only [Bool.and_eq_true, decide_eq_true_eq, beq_iff_eq, and_true, Rul.mk.injEq]
theorem RuA_inj {p q : Rul} : RuA p = RuA q ↔ p = q := by
  constructor
  · intro h
    cases q; cases p
    simp only [RuA, Value.agg.injEq, Array.mk.injEq, List.cons.injEq, Value.int.injEq, Value.bool.injEq, true_and, and_true] at h
    simp only [Rul.mk.injEq]
    simpa using h
  · rintro rfl; rfl
/-! the first of each kind -/
def ddK (rs : List Rul) : Nat → List Rul
  | 0 => []
  | k + 1 => if kR (rs.getD k default) ∈ (rs.take k).map kR then ddK rs k else ddK rs k ++ [rs.getD k default]
theorem ddK_old {rs : List Rul} {k : Nat} (h : kR (rs.getD k default) ∈ (rs.take k).map kR) : ddK rs (k + 1) = ddK rs k := if_pos h
theorem ddK_new {rs : List Rul} {k : Nat} (h : ¬ kR (rs.getD k default) ∈ (rs.take k).map kR) : ddK rs (k + 1) = ddK rs k ++ [rs.getD k default] := if_neg h
theorem ddK_len (rs : List Rul) : ∀ k, (ddK rs k).length ≤ k
  | 0 => by simp [ddK]
  | k + 1 => by
    have := ddK_len rs k
    unfold ddK
    split
    · omega
    · simp; omega
/-- How many stay when the last that only say what is said anyway go. -/
def trimN (rs : List Rul) (d : Bool) : Nat → Nat
  | 0 => 0
  | m + 1 => if (rs.getD m default).inn = d then trimN rs d m else m + 1
theorem trimN_le (rs : List Rul) (d : Bool) : ∀ m, trimN rs d m ≤ m
  | 0 => Nat.le_refl _
  | m + 1 => by have := trimN_le rs d m; unfold trimN; split <;> omega
theorem trimN_go {rs : List Rul} {d : Bool} {m : Nat} (h0 : 0 < m) (h : (rs.getD (m - 1) default).inn = d) : trimN rs d m = trimN rs d (m - 1) := by
  obtain ⟨j, rfl⟩ : ∃ j, m = j + 1 := ⟨m - 1, by omega⟩
  exact if_pos h
theorem trimN_stop {rs : List Rul} {d : Bool} {m : Nat} (h : m = 0 ∨ (rs.getD (m - 1) default).inn ≠ d) : trimN rs d m = m := by
  cases m with
  | zero => rfl
  | succ j => exact if_neg (h.resolve_left (by omega))
def leastS (rs : List Rul) (d : Bool) : List Rul := (ddK rs rs.length).take (trimN (ddK rs rs.length) d (ddK rs rs.length).length)
def leastV (rs : List Rul) (d : Bool) : List Rul × Bool × Int := if chkB rs = 0 then (leastS rs d, d, 0) else ([], false, chkB rs)
theorem sameR_step {rs ps : List Rul} {k : Nat} (h1 : k < rs.length) (h2 : k < ps.length) (hb : rs.take k = ps.take k) (he : eqR (rs.getD k default) (ps.getD k default) = true) : rs.take (k + 1) = ps.take (k + 1) := by
  rw [eqR_iff, decide_eq_true_iff] at he
  rw [take_snoc h1, take_snoc h2, hb, he]
theorem sameR_end {rs ps : List Rul} {k : Nat} (h1 : rs.length ≤ k) (h2 : ps.length ≤ k) (hb : rs.take k = ps.take k) : rs = ps := by
  rwa [List.take_of_length_le h1, List.take_of_length_le h2] at hb
theorem sameR_ne {rs ps : List Rul} {k : Nat} (he : eqR (rs.getD k default) (ps.getD k default) = false) : rs ≠ ps := by
  rintro rfl
  rw [eqR_iff] at he
  simp at he
theorem take_get {α : Type} [Inhabited α] {rs : List α} {i j : Nat} (h : i < j) (h2 : j ≤ rs.length) : (rs.take j)[i]? = some (rs.getD i default) := by
  rw [List.getElem?_take, if_pos h]
  exact get_dflt rs (by omega)
def keysOf (rs : List Rul) (k : Nat) (ks : List Value) : Prop := ∀ x, x ∈ ks ↔ ∃ q ∈ rs.take k, x = RuA (kR q)
theorem keys_0 {rs : List Rul} : keysOf rs 0 [] := fun x => by simp
theorem keys_iff {rs : List Rul} {k : Nat} {ks : List Value} (h : keysOf rs k ks) (q : Rul) : RuA (kR q) ∈ ks ↔ kR q ∈ (rs.take k).map kR := by
  rw [h, List.mem_map]
  constructor
  · rintro ⟨p, hp, e⟩; exact ⟨p, hp, (RuA_inj.1 e).symm⟩
  · rintro ⟨p, hp, e⟩; exact ⟨p, hp, by rw [e]⟩
theorem keys_in {rs : List Rul} {k : Nat} {ks : List Value} (hk : k < rs.length) (h : keysOf rs k ks) (hm : RuA (kR (rs.getD k default)) ∈ ks) : keysOf rs (k + 1) ks := fun x => by
  rw [take_snoc hk]
  constructor
  · intro hx; obtain ⟨q, hq, e⟩ := (h x).1 hx; exact ⟨q, by simp [hq], e⟩
  · rintro ⟨q, hq, e⟩
    rcases List.mem_append.1 hq with hq | hq
    · exact (h x).2 ⟨q, hq, e⟩
    · have : q = rs.getD k default := by simpa using hq
      rw [e, this]; exact hm
theorem keys_out {rs : List Rul} {k : Nat} {ks : List Value} (hk : k < rs.length) (h : keysOf rs k ks) : keysOf rs (k + 1) (ks ++ [RuA (kR (rs.getD k default))]) := fun x => by
  rw [take_snoc hk, List.mem_append, h x]
  constructor
  · rintro (⟨q, hq, e⟩ | hx)
    · exact ⟨q, by simp [hq], e⟩
    · exact ⟨rs.getD k default, List.mem_append.2 (.inr (List.mem_singleton.2 rfl)), List.mem_singleton.1 hx⟩
  · rintro ⟨q, hq, e⟩
    rcases List.mem_append.1 hq with hq | hq
    · exact .inl ⟨q, hq, e⟩
    · have : q = rs.getD k default := by simpa using hq
      exact .inr (by rw [e, this]; exact List.mem_singleton.2 rfl)
theorem bits38 (q : Rul) : Instr.sameBits 10000 (RuA q) (RuA q) = true := by simp [RuA, Instr.sameBits]
theorem chkB_le {rs : List Rul} (h : chkB rs = 0) : rs.length ≤ 32 := by
  unfold chkB at h
  split at h
  · cases h
  · rename_i g; omega
theorem trim_go {rs : List Rul} {d : Bool} {j : Nat} (h : 0 < (j : Int) ∧ ((rs.getD ((j : Int) - 1).toNat default).inn == d) = true) : trimN rs d j = trimN rs d (j - 1) := by
  have e : ((j : Int) - 1).toNat = j - 1 := by omega
  rw [e] at h
  exact trimN_go (by omega) (eq_of_beq h.2)
theorem trim_stop {rs : List Rul} {d : Bool} {j : Nat} (h : (j : Int) ≤ 0 ∨ ((rs.getD ((j : Int) - 1).toNat default).inn == d) = false) : trimN rs d j = j := by
  refine trimN_stop ?_
  rcases h with h | h
  · exact .inl (by omega)
  · by_cases h0 : j = 0
    · exact .inl h0
    · have e : ((j : Int) - 1).toNat = j - 1 := by omega
      rw [e] at h
      exact .inr (by simpa using h)
theorem least_end {rs : List Rul} {d : Bool} {k j : Nat} (h : chkB rs = 0) (hk : k = rs.length) (hj : j ≤ (ddK rs k).length) (ht : trimN (ddK rs k) d (ddK rs k).length = trimN (ddK rs k) d j) (hs : trimN (ddK rs k) d j = j) : leastV rs d = ((ddK rs k).take j, d, 0) ∧ ((ddK rs k).take j).length = j := by
  subst hk
  refine ⟨?_, by rw [List.length_take]; omega⟩
  unfold leastV leastS
  rw [if_pos h, ht, hs]
theorem least_bad {rs : List Rul} {d : Bool} (h : ¬ chkB rs = 0) : leastV rs d = ([], false, chkB rs) := if_neg h
end Go.Sep
namespace Go.Sep
open Go
def inR (q : Rul) (x : Bool) : Rul := ⟨q.kinds, q.id, q.idm, q.sdt, q.sdtm, q.vcid, q.vcidm, q.af, q.afm, x⟩
theorem inR_eq (p q : Rul) : eqR (inR p q.inn) q = decide (kR p = kR q) := by
  rw [eqR_iff, Bool.eq_iff_iff, decide_eq_true_iff, decide_eq_true_iff]
  cases p; cases q
  simp only [inR, kR, Rul.mk.injEq, and_true]
theorem seen_step {rs : List Rul} {q : Rul} {j : Nat} (h : j < rs.length) : (decide (kR q ∈ (rs.take j).map kR) || eqR (inR (rs.getD j default) q.inn) q) = decide (kR q ∈ (rs.take (j + 1)).map kR) := by
  rw [inR_eq, take_snoc h, List.map_append, Bool.eq_iff_iff]
  simp only [Bool.or_eq_true, decide_eq_true_eq, List.mem_append, List.map_cons, List.map_nil, List.mem_singleton]
  rw [eq_comm (a := kR (rs.getD j default))]
theorem Rd.preR {α : Type} {enc : α → List Value} {sz : Nat} [E : RowE enc sz] {w0 : World} {H : List Chunk} {a : Option Addr} {n c m : Nat} {rs : List α} (hR : Rd w0 H a n c sz (rs.flatMap enc)) (hm : m ≤ n) : Rd w0 H a m c sz ((rs.take m).flatMap enc) := by
  have h := hR.sub (l := 0) (h := m) (Nat.zero_le _) hm
  rw [subA_zero] at h
  simpa [flat_take E.len] using h
end Go.Sep
namespace Go.Sep
open Go
theorem ddK_ok {rs : List Rul} (h : ∀ k, RuOk (rs.getD k default)) : ∀ k, ∀ q ∈ ddK rs k, RuOk q
  | 0, q, hq => by simp [ddK] at hq
  | k + 1, q, hq => by
    unfold ddK at hq
    split at hq
    · exact ddK_ok h k q hq
    · rcases List.mem_append.1 hq with hq | hq
      · exact ddK_ok h k q hq
      · rw [List.mem_singleton.1 hq]; exact h k
theorem least_ok {rs : List Rul} {d : Bool} (h : ∀ k, RuOk (rs.getD k default)) : ∀ k, RuOk ((leastV rs d).1.getD k default) := by
  refine getD_ok fun q hq => ?_
  unfold leastV leastS at hq
  split at hq
  · exact ddK_ok h _ q (List.mem_of_mem_take hq)
  · simp at hq
theorem least_len (rs : List Rul) (d : Bool) : (leastV rs d).1.length ≤ rs.length := by
  unfold leastV leastS
  split
  · have := ddK_len rs rs.length
    simp only [List.length_take]
    omega
  · simp
def zk (q : Rul) : Rul := ⟨0, q.id, q.idm, q.sdt, q.sdtm, q.vcid, q.vcidm, q.af, q.afm, q.inn⟩
end Go.Sep
