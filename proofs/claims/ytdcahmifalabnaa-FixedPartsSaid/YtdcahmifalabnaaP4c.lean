/- Fixed stuff bits: the places of stuff bits, tallies one apart, parts. -/
import Derived.Test.YtdcahmifalabnaaP4b
set_option linter.unusedVariables false
set_option linter.unusedSimpArgs false
namespace Go.Proofs.Ytdcahmifalabnaa.M
open Go Go.Sep Go.Proofs

theorem xor1 {b : Int} (h0 : 0 ≤ b) (h1 : b ≤ 1) : xorI .u8 b 1 = 1 - b := by
  rcases (by omega : b = 0 ∨ b = 1) with rfl | rfl <;> decide
theorem set_map (l : List Int) (j : Nat) {v w : Int} (h : v = w) : (l.map (Value.int .u8)).set j (.int .u8 v) = (l.set j w).map (Value.int .u8) := by rw [h, List.map_set]
theorem Bit.set1 {x : List Int} (h : Bit x) (j : Nat) : Byte (x.set j (1 - x.getD j 0)) := by
  intro y hy
  have hb := h j
  rcases List.mem_or_eq_of_mem_set hy with hy | rfl
  · exact h.byte y hy
  · omega
def lastP (ps : List Int) : Int := ps.getD ((ps.length : Int) - 1).toNat 0
def dueP (ev : Int) (ah : Bool) (k : Nat) (ps : List Int) (nd : Int) : Prop := ((k : Int) = 0 ∧ ah = true) ∨ (0 < nd ∧ nd.tmod ev = 0 ∧ ¬ (0 < (ps.length : Int) ∧ lastP ps = (k : Int) - 1))
/-- What the loop over the raw row knows. -/
structure TI (ev : Int) (ah : Bool) (m k : Nat) (ps : List Int) (nd left : Int) : Prop where
  km : k ≤ m
  all : ps ++ plr ev left k (m - k) = plr ev (if ah then 0 else ev) 0 m
  n0 : 0 ≤ nd
  cnt : nd + ps.length = k
  lt : ∀ p ∈ ps, p < (k : Int)
  st : (k = 0 ∧ ps = [] ∧ nd = 0 ∧ left = (if ah then 0 else ev)) ∨ (0 < (ps.length : Int) ∧ lastP ps = (k : Int) - 1 ∧ left = ev ∧ nd % ev = 0) ∨ (0 < nd ∧ ¬ (0 < (ps.length : Int) ∧ lastP ps = (k : Int) - 1) ∧ left = ev - 1 - (nd - 1) % ev)
theorem TI.start {ev : Int} {ah : Bool} {m : Nat} : TI ev ah m 0 [] 0 (if ah then 0 else ev) := ⟨Nat.zero_le _, by simp, Int.le_refl _, rfl, fun _ h => (by cases h), .inl ⟨rfl, rfl, rfl, rfl⟩⟩
theorem lastP_app (ps : List Int) (k : Int) : lastP (ps ++ [k]) = k := by
  unfold lastP
  have : (((ps ++ [k]).length : Int) - 1).toNat = ps.length := by simp
  rw [this]; simp
theorem TI.due_iff {ev nd left : Int} {ah : Bool} {m k : Nat} {ps : List Int} (h : TI ev ah m k ps nd left) (he : 1 ≤ ev) : dueP ev ah k ps nd ↔ left = 0 := by
  have hn := h.n0
  have hc := h.cnt
  unfold dueP
  rw [Int.tmod_eq_emod_of_nonneg hn]
  rcases h.st with ⟨h1, h2, h3, h4⟩ | ⟨h1, h2, h3, h4⟩ | ⟨h1, h2, h3⟩
  · subst h1 h3; rw [h4]; cases ah <;> simp; omega
  · constructor
    · rintro (⟨g, _⟩ | ⟨_, _, g⟩)
      · omega
      · exact absurd ⟨h1, h2⟩ g
    · intro g; omega
  · obtain ⟨q, hq⟩ : ∃ q : Nat, nd = (q : Int) + 1 := ⟨(nd - 1).toNat, by omega⟩
    have hm := mod_step he q
    rw [h3, hq, Int.add_sub_cancel]
    generalize (q : Int) % ev = r at hm ⊢
    generalize ((q : Int) + 1) % ev = s at hm ⊢
    constructor
    · rintro (⟨g, _⟩ | ⟨_, g, _⟩) <;> omega
    · intro g; exact .inr ⟨by omega, by omega, h2⟩
theorem plr_step {ev left : Int} {m k : Nat} (hk : k < m) : plr ev left k (m - k) = if left = 0 then (k : Int) :: plr ev ev ((k + 1 : Nat) : Int) (m - (k + 1)) else plr ev (left - 1) ((k + 1 : Nat) : Int) (m - (k + 1)) := by
  have : m - k = (m - (k + 1)) + 1 := by omega
  rw [this, plr]
  simp
theorem TI.stuff {ev nd left : Int} {ah : Bool} {m k : Nat} {ps : List Int} (h : TI ev ah m k ps nd left) (he : 1 ≤ ev) (hk : k < m) (hd : dueP ev ah k ps nd) : TI ev ah m (k + 1) (ps ++ [(k : Int)]) nd ev := by
  have hz := (h.due_iff he).1 hd
  have hc := h.cnt
  refine ⟨hk, ?_, h.n0, (by simp <;> omega), fun p hp => ?_, .inr (.inl ⟨(by simp <;> omega), by rw [lastP_app]; omega, rfl, ?_⟩)⟩
  · rw [← h.all, plr_step hk, if_pos hz]; simp
  · rcases List.mem_append.1 hp with hp | hp
    · have := h.lt p hp; omega
    · simp at hp; omega
  · rcases h.st with ⟨h1, h2, h3, h4⟩ | ⟨h1, h2, h3, h4⟩ | ⟨h1, h2, h3⟩
    · rw [h3]; simp
    · exact h4
    · obtain ⟨q, hq⟩ : ∃ q : Nat, nd = (q : Int) + 1 := ⟨(nd - 1).toNat, by omega⟩
      have hm := mod_step he q
      rw [hq, Int.add_sub_cancel] at h3
      rw [hq]
      omega
theorem TI.data {ev nd left : Int} {ah : Bool} {m k : Nat} {ps : List Int} (h : TI ev ah m k ps nd left) (he : 1 ≤ ev) (hk : k < m) (hd : ¬ dueP ev ah k ps nd) : TI ev ah m (k + 1) ps (nd + 1) (left - 1) := by
  have hz : ¬ left = 0 := fun e => hd ((h.due_iff he).2 e)
  have hc := h.cnt
  have hn := h.n0
  refine ⟨hk, ?_, by omega, by omega, fun p hp => ?_, .inr (.inr ⟨by omega, ?_, ?_⟩)⟩
  · rw [← h.all, plr_step hk, if_neg hz]
  · have := h.lt p hp; omega
  · rintro ⟨g1, g2⟩
    have hmem : lastP ps ∈ ps := by
      unfold lastP
      rw [List.getD_eq_getElem?_getD, List.getElem?_eq_getElem (by omega)]
      exact List.getElem_mem _
    have := h.lt _ hmem; omega
  · rw [Int.add_sub_cancel]
    rcases h.st with ⟨h1, h2, h3, h4⟩ | ⟨h1, h2, h3, h4⟩ | ⟨h1, h2, h3⟩
    · rw [h3, h4]; cases ah
      · simp
      · rw [h4] at hz; exact absurd rfl hz
    · rw [h4, h3]; omega
    · obtain ⟨q, hq⟩ : ∃ q : Nat, nd = (q : Int) + 1 := ⟨(nd - 1).toNat, by omega⟩
      have hm := mod_step he q
      rw [hq, Int.add_sub_cancel] at h3
      rw [hq]; omega
theorem TI.done {ev nd left : Int} {ah : Bool} {m k : Nat} {ps : List Int} (h : TI ev ah m k ps nd left) (hk : k = m) : ps = plr ev (if ah then 0 else ev) 0 m := by
  have := h.all
  rw [hk, Nat.sub_self] at this
  simpa [plr] using this
/-- A stuff bit that is turned is told. -/
theorem turned {prev ev : Int} {es x : List Int} {ah : Bool} {q : Int} (p0 : 0 ≤ prev) (hB : Byte es) (h : putV prev es ev ah = (x, 0)) (hq : q ∈ plr ev (if ah then 0 else ev) 0 x.length) :
    getV prev (x.set q.toNat (1 - x.getD q.toNat 0)) ev ah = ([], 4) := by
  obtain ⟨g1, g2, g3, p1, e1, e2, hb⟩ := putV_fit p0 hB h
  have hbx : Bit x := by rw [g3]; exact putS_bit ev es prev _ p0 p1 hb
  have hg := get_put ev e1 es prev (if ah then 0 else ev) false hb
  rw [← g3] at hg
  have hr := plr_ge ev _ _ _ _ hq
  have ht := turn_none ev x prev (if ah then 0 else ev) 0 false _ q.toNat p0 p1 hbx hg (by rw [show (0 : Int) + (q.toNat : Int) = q by omega]; exact hq)
  refine getV_none (fck_iff.2 ⟨p1, chk_zero.2 ⟨?_, Bit.good ?_⟩, e1, e2⟩) ht
  · rw [List.length_set]
    by_cases hc : fck prev es ev = true ∧ fsize es.length ev ah ≤ 65536
    · have := putS_fsize (prev := prev) (ah := ah) (es := es) e1
      rw [← g3] at this; omega
    · rw [putV_bad hc] at h; cases h
  · refine bit_iff.2 fun y hy => ?_
    have hb2 := hbx q.toNat
    rcases List.mem_or_eq_of_mem_set hy with hy | rfl
    · exact bit_iff.1 hbx y hy
    · omega
theorem turns_count {prev ev : Int} {es x : List Int} {ah : Bool} (p0 : 0 ≤ prev) (hB : Byte es) (h : putV prev es ev ah = (x, 0)) : (plr ev (if ah then 0 else ev) 0 x.length).length + es.length = x.length := by
  obtain ⟨g1, g2, g3, p1, e1, e2, hb⟩ := putV_fit p0 hB h
  have hg := get_put ev e1 es prev (if ah then 0 else ev) false hb
  rw [← g3] at hg
  exact plr_count ev x _ _ _ _ _ hg

/-- In how many of the first places two rows differ. -/
def cntD (a b : List Int) : Nat → Int
  | 0 => 0
  | k + 1 => if a.getD k 0 = b.getD k 0 then cntD a b k else cntD a b k + 1
theorem cntD_range (a b : List Int) : ∀ k, 0 ≤ cntD a b k ∧ cntD a b k ≤ k
  | 0 => by simp [cntD]
  | k + 1 => by have := cntD_range a b k; unfold cntD; split <;> omega
theorem tally_tells : ∀ i, i < 8 → tellsV (tallyT i) = ((i : Int), 0) ∧ cntD (tallyT i) (tallyT ((i + 1) % 8)) 4 = 2 ∧ (∀ j, j < 4 → tellsV ((tallyT i).set j (1 - (tallyT i).getD j 0)) = (0, 6)) ∧ (∀ j, j < 4 → 0 ≤ (tallyT i).getD j 0 ∧ (tallyT i).getD j 0 ≤ 1) ∧ (tallyT i).length = 4 := by decide
end Go.Proofs.Ytdcahmifalabnaa.M
