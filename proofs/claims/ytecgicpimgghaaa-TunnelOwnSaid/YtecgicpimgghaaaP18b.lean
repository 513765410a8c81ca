/- Frames as bytes: what is put is got. -/
import Derived.Test.YtecgicpimgghaaaP18
set_option linter.unusedVariables false
set_option linter.unusedSimpArgs false
namespace Go.Sep
open Go
theorem chk_wrap {id vcid sdt : Int} {es : List Int} (hid : id < 2048) (h1 : 1 ≤ es.length) (h2 : es.length ≤ 2048) : chkF (wrapF id vcid sdt es) = 0 := by
  refine chkF_0 ⟨?_, ?_, .inl rfl, .inr (.inr (.inl ⟨rfl, rfl, rfl, rfl, rfl⟩))⟩
  · show (codeS 3 (es.length : Int)).2 = 0
    unfold codeS; rw [if_pos (by omega)]
  · show id < (if (false : Bool) = true then (536870912 : Int) else 2048)
    simpa using hid
theorem chk_wrap0 {id vcid sdt : Int} {es : List Int} (h1 : es.length = 0) : chkF (wrapF id vcid sdt es) ≠ 0 := by
  intro h
  have h3 := code_len (okF_iff.1 (chk_ok_iff.1 h)).1
  have e : (wrapF id vcid sdt es).kind = 3 := rfl
  have e2 : (wrapF id vcid sdt es).data.length = es.length := rfl
  omega
theorem wrapR_is {id vcid sdt : Int} {es : List Int} (h : chkF (wrapF id vcid sdt es) = 0) : wrapR id vcid sdt es = wrapF id vcid sdt es := if_pos h
theorem six {es : List Int} (h : 6 ≤ es.length) : es = [bi es 0, bi es 1, bi es 2, bi es 3, bi es 4, bi es 5] ++ es.drop 6 := by
  match es, h with
  | _ :: _ :: _ :: _ :: _ :: _ :: _, _ => rfl
theorem two_bi {es : List Int} (h : 2 ≤ es.length) : es = [bi es 0, bi es 1] ++ es.drop 2 := by
  match es, h with
  | _ :: _ :: _, _ => rfl
/-- Classic and FD frames: bytes that are got are put as they were -/
theorem old_put {es : List Int} (hB : Byte es) (h : oldE es = 0) : (oldR es).kind ≠ 3 ∧ chkF (oldR es) = 0 ∧ putO (oldR es) = (es, 0) := by
  have hR : oldR es = oldF es := if_pos h
  rw [hR]
  have b0 := bi_rng hB 0
  have b1 := bi_rng hB 1
  have b2' := bi_rng hB 2
  have b3 := bi_rng hB 3
  have b4 := bi_rng hB 4
  have b5 := bi_rng hB 5
  unfold oldE at h
  split at h
  · cases h
  · rename_i h6
    split at h
    · cases h
    · rename_i h32
      split at h
      · cases h
      · rename_i hl
        split at h
        · cases h
        · rename_i hm
          split at h
          · cases h
          · rename_i hc
            have hc0 : chkF (oldF es) = 0 := by omega
            have hk : (oldF es).kind ≠ 3 := by show 1 + bi es 0 % 2 ≠ 3; omega
            refine ⟨hk, hc0, ?_⟩
            rw [putO_ok hk hc0]
            congr 1
            have hd : (oldF es).data = es.drop 6 := rfl
            have hdl : (es.drop 6).length = es.length - 6 := List.length_drop
            have hflags : flagsF (oldF es) = bi es 0 := by
              show b2 (decide (1 + bi es 0 % 2 = 2)) 1 + b2 (decide (1 < 5) && decide (bi es 0 / 2 % 2 = 1)) 2 + b2 (decide (2 < 5) && decide (bi es 0 / 4 % 2 = 1)) 4 + b2 (decide (3 < 5) && decide (bi es 0 / 8 % 2 = 1)) 8 + b2 (decide (4 < 5) && decide (bi es 0 / 16 % 2 = 1)) 16 = bi es 0
              have e0 : b2 (decide (1 + bi es 0 % 2 = 2)) 1 = bi es 0 % 2 := by
                unfold b2; simp only [decide_eq_true_eq]; split <;> omega
              have eb : ∀ (k : Int) (n : Int), (k = 0 ∨ k = 1) → b2 (true && decide (k = 1)) n = k * n := by
                intro k n hk
                rcases hk with rfl | rfl <;> simp [b2]
              rw [e0]
              have t1 : decide ((1 : Nat) < 5) = true := rfl
              have t2 : decide ((2 : Nat) < 5) = true := rfl
              have t3 : decide ((3 : Nat) < 5) = true := rfl
              have t4 : decide ((4 : Nat) < 5) = true := rfl
              rw [t1, t2, t3, t4, eb _ _ (by omega), eb _ _ (by omega), eb _ _ (by omega), eb _ _ (by omega)]
              omega
            have hid : (oldF es).id = oldId es := rfl
            unfold oldB
            rw [hflags, hid, hd, hdl]
            conv => rhs; rw [six (es := es) (by omega)]
            congr 1
            unfold oldId
            congr 1
            congr 1
            · omega
            congr 1
            · omega
            congr 1
            · omega
            congr 1
            · omega
            congr 1
            omega
theorem b2_cases (b : Bool) (n : Int) : (b = true ∧ b2 b n = n) ∨ (b = false ∧ b2 b n = 0) := by cases b <;> simp [b2]
/-- ... and what is put is got -/
theorem old_get {f : Frm} (hf : FrOk f) (hk : f.kind ≠ 3) (hc : chkF f = 0) : oldE (oldB f) = 0 ∧ oldR (oldB f) = f := by
  have hok := okF_iff.1 (chk_ok_iff.1 hc)
  have hl := old_max hk hc
  have hlen := oldB_len f
  have hid := hf.id
  have hkind : f.kind = 1 ∨ f.kind = 2 := by have := code_kind hok.1; omega
  have hrest : f.sec = false ∧ f.sdt = 0 ∧ f.vcid = 0 ∧ f.af = 0 := by
    rcases hok.2.2.2 with h | h | h | h
    · exact ⟨h.2.2.2.1, h.2.2.2.2.1, h.2.2.2.2.2.1, h.2.2.2.2.2.2⟩
    · exact ⟨h.2.2.2.1, h.2.2.2.2.1, h.2.2.2.2.2.1, h.2.2.2.2.2.2⟩
    · omega
    · omega
  have e0 : bi (oldB f) 0 = flagsF f := rfl
  have e5 : bi (oldB f) 5 = (f.data.length : Int) % 256 := rfl
  have ed : (oldB f).drop 6 = f.data := rfl
  have eid : oldId (oldB f) = f.id := by
    show f.id / 2 ^ 24 * 2 ^ 24 + f.id / 2 ^ 16 % 256 * 2 ^ 16 + f.id / 2 ^ 8 % 256 * 2 ^ 8 + f.id % 256 = f.id
    omega
  have hfl : flagsF f = b2 (decide (f.kind = 2)) 1 + b2 f.ext 2 + b2 f.rtr 4 + b2 f.brs 8 + b2 f.esi 16 := rfl
  have c0 := b2_cases (decide (f.kind = 2)) 1
  have c1 := b2_cases f.ext 2
  have c2 := b2_cases f.rtr 4
  have c3 := b2_cases f.brs 8
  have c4 := b2_cases f.esi 16
  have f32 : flagsF f < 32 := by omega
  have f0 : 0 ≤ flagsF f := by omega
  have hF : oldF (oldB f) = f := by
    have hkk : (1 : Int) + flagsF f % 2 = f.kind := by
      rcases hkind with h | h
      · have : decide (f.kind = 2) = false := by rw [h]; rfl
        rw [this] at c0
        have : b2 (decide (f.kind = 2)) 1 = 0 := by rw [‹decide (f.kind = 2) = false›]; rfl
        omega
      · have : b2 (decide (f.kind = 2)) 1 = 1 := by rw [h]; rfl
        omega
    have hb : ∀ (b : Bool) (z : Prop) [Decidable z], (b = true → z) → (b = false → ¬ z) → (true && decide z) = b := by
      intro b z _ h1 h2
      cases b
      · simp [h2 rfl]
      · simp [h1 rfl]
    show (⟨1 + bi (oldB f) 0 % 2, oldId (oldB f), decide ((1 : Nat) < 5) && decide (bi (oldB f) 0 / 2 % 2 = 1), decide ((2 : Nat) < 5) && decide (bi (oldB f) 0 / 4 % 2 = 1), decide ((3 : Nat) < 5) && decide (bi (oldB f) 0 / 8 % 2 = 1), decide ((4 : Nat) < 5) && decide (bi (oldB f) 0 / 16 % 2 = 1), false, 0, 0, 0, (oldB f).drop 6⟩ : Frm) = f
    rw [e0, eid, ed, hkk]
    have t1 : decide ((1 : Nat) < 5) = true := rfl
    have t2 : decide ((2 : Nat) < 5) = true := rfl
    have t3 : decide ((3 : Nat) < 5) = true := rfl
    have t4 : decide ((4 : Nat) < 5) = true := rfl
    have r0 : b2 (decide (f.kind = 2)) 1 = 0 ∨ b2 (decide (f.kind = 2)) 1 = 1 := by omega
    have x1 : (true && decide (flagsF f / 2 % 2 = 1)) = f.ext := hb _ _ (fun h => by rw [h] at c1 hfl; simp [b2] at c1; have : b2 true 2 = 2 := rfl; omega) (fun h => by rw [h] at c1 hfl; have : b2 false 2 = 0 := rfl; omega)
    have x2 : (true && decide (flagsF f / 4 % 2 = 1)) = f.rtr := hb _ _ (fun h => by rw [h] at c2 hfl; have : b2 true 4 = 4 := rfl; omega) (fun h => by rw [h] at c2 hfl; have : b2 false 4 = 0 := rfl; omega)
    have x3 : (true && decide (flagsF f / 8 % 2 = 1)) = f.brs := hb _ _ (fun h => by rw [h] at c3 hfl; have : b2 true 8 = 8 := rfl; omega) (fun h => by rw [h] at c3 hfl; have : b2 false 8 = 0 := rfl; omega)
    have x4 : (true && decide (flagsF f / 16 % 2 = 1)) = f.esi := hb _ _ (fun h => by rw [h] at c4 hfl; have : b2 true 16 = 16 := rfl; omega) (fun h => by rw [h] at c4 hfl; have : b2 false 16 = 0 := rfl; omega)
    rw [t1, t2, t3, t4, x1, x2, x3, x4]
    obtain ⟨h1, h2, h3, h4⟩ := hrest
    clear x1 x2 x3 x4 hb c0 c1 c2 c3 c4 hkk r0 f32 f0 hfl eid e0 e5 ed hkind hid hl hlen hok hc hk hf
    cases f
    simp only at h1 h2 h3 h4
    subst h1 h2 h3 h4
    rfl
  have hE : oldE (oldB f) = 0 := by
    unfold oldE
    rw [if_neg (by omega), if_neg (by rw [e0]; omega), if_neg (by rw [e5]; omega), if_neg (by rw [e5]; omega), hF, if_neg (by omega)]
  exact ⟨hE, by rw [oldR, if_pos hE, hF]⟩
theorem wN_two {y : Int} (h : 0 ≤ y ∧ y ≤ 65535) (l : List Int) : wN (two y ++ l) = y := by
  show y / 2 ^ 8 * 256 + y % 256 = y
  omega
theorem two_wN {l : List Int} (h : Byte l) : two (wN l) = [bi l 0, bi l 1] := by
  have h0 := bi_rng h 0
  have h1 := bi_rng h 1
  unfold two wN
  have e1 : (bi l 0 * 256 + bi l 1) / 2 ^ 8 = bi l 0 := by omega
  have e2 : (bi l 0 * 256 + bi l 1) % 256 = bi l 1 := by omega
  rw [e1, e2]
/-- Ethernet frames: what is put is got -/
theorem eth_get {x : Eth} (he : EOk x) (h : (putE x).2 = 0) : (putE x).1 = ethB x ∧ 14 ≤ (ethB x).length ∧ (ethB x).length ≤ 2048 ∧ getEe (ethB x) = 0 ∧ sameE (getEr (ethB x)) x = true := by
  have hnb : ¬ ((x.tagged = false ∧ (x.tag ≠ 0 ∨ x.typ = 33024)) ∨ 2048 < ethL x) := fun hb => by rw [putE_bad hb] at h; cases h
  have hlen := ethB_len x
  have h12 : t12 x.t = x.t := t12_eq he.len
  have hE1 : (putE x).1 = ethB x := by rw [putE_ok hnb]
  have hl14 : 14 ≤ ethL x := by unfold ethL; omega
  refine ⟨hE1, by omega, by omega, ?_⟩
  have htk : (ethB x).take 12 = x.t := by
    unfold ethB ethH
    rw [h12, List.append_assoc, List.append_assoc, List.take_left' he.len]
  have hdr : (ethB x).drop 12 = (if x.tagged = true then [33024, x.tag].flatMap two else []) ++ two x.typ ++ x.data := by
    unfold ethB ethH
    rw [h12, List.append_assoc, List.append_assoc, List.drop_left' he.len, List.append_assoc]
  have ht12 : t12 (ethB x) = x.t := by rw [t12_take (by omega), htk]
  cases htg : x.tagged with
  | true =>
    have hl18 : 18 ≤ ethL x := by unfold ethL; rw [htg]; simp
    have hd : (ethB x).drop 12 = two 33024 ++ (two x.tag ++ (two x.typ ++ x.data)) := by
      rw [hdr, htg]; simp [two]
    have hw : wN ((ethB x).drop 12) = 33024 := by rw [hd, wN_two (by omega)]
    have h0 := getE_tag (es := ethB x) (by omega) (by omega) hw
    refine ⟨h0.2, ?_⟩
    rw [h0.1, hd]
    have d2 : (two 33024 ++ (two x.tag ++ (two x.typ ++ x.data))).drop 2 = two x.tag ++ (two x.typ ++ x.data) := rfl
    have d4 : (two 33024 ++ (two x.tag ++ (two x.typ ++ x.data))).drop 4 = two x.typ ++ x.data := rfl
    have d6 : (two x.typ ++ x.data).drop 2 = x.data := rfl
    rw [d2, d4, d6, wN_two he.tag, wN_two he.typ]
    unfold sameE
    simp [ht12, h12, htg]
  | false =>
    have hz : x.tag = 0 ∧ x.typ ≠ 33024 := by
      rw [htg] at hnb
      simp at hnb
      omega
    have hd : (ethB x).drop 12 = two x.typ ++ x.data := by rw [hdr, htg]; simp
    have hw : wN ((ethB x).drop 12) = x.typ := by rw [hd, wN_two he.typ]
    have h0 := getE_bare (es := ethB x) (by omega) (by omega) (by rw [hw]; exact hz.2)
    refine ⟨h0.2, ?_⟩
    rw [h0.1, hw, hd]
    have d2 : (two x.typ ++ x.data).drop 2 = x.data := rfl
    rw [d2]
    unfold sameE
    simp [ht12, h12, htg, hz.1]
/-- ... and bytes that are got are put as they were -/
theorem eth_put {es : List Int} (hB : Byte es) (h : getEe es = 0) : putE (getEr es) = (es, 0) := by
  unfold getEe at h
  split at h
  · cases h
  · rename_i h1
    split at h
    · cases h
    · rename_i h2
      have hBd : Byte (es.drop 12) := hB.drop 12
      have hl12 : (es.drop 12).length = es.length - 12 := List.length_drop
      have ht : t12 (t12 es) = t12 es := rfl
      have htake := t12_take (es := es) (by omega)
      by_cases hw : wN (es.drop 12) = 33024
      · have h0 := getE_tag (es := es) (by omega) (by omega) hw
        rw [h0.1]
        have s1 := two_bi (es := es.drop 12) (by omega)
        have s2 := two_bi (es := (es.drop 12).drop 2) (by rw [List.length_drop]; omega)
        have s3 := two_bi (es := (es.drop 12).drop 4) (by rw [List.length_drop]; omega)
        have e24 : ((es.drop 12).drop 2).drop 2 = (es.drop 12).drop 4 := by rw [List.drop_drop]
        have hL : ethB ⟨t12 es, true, wN ((es.drop 12).drop 2), wN ((es.drop 12).drop 4), ((es.drop 12).drop 4).drop 2⟩ = es := by
          show t12 (t12 es) ++ [33024, wN ((es.drop 12).drop 2)].flatMap two ++ two (wN ((es.drop 12).drop 4)) ++ ((es.drop 12).drop 4).drop 2 = es
          have e1 : [33024, wN ((es.drop 12).drop 2)].flatMap two = two 33024 ++ two (wN ((es.drop 12).drop 2)) := by simp
          rw [ht, htake, e1, ← hw, two_wN hBd, two_wN (hBd.drop 2), two_wN (hBd.drop 4), List.append_assoc, List.append_assoc, List.append_assoc, ← s3, ← e24, ← s2, ← s1, List.take_append_drop]
        rw [putE_ok, hL]
        rintro (hb | hb)
        · cases hb.1
        · rw [← ethB_len, hL] at hb; omega
      · have h0 := getE_bare (es := es) (by omega) (by omega) hw
        rw [h0.1]
        have s1 := two_bi (es := es.drop 12) (by omega)
        have hL : ethB ⟨t12 es, false, 0, wN (es.drop 12), (es.drop 12).drop 2⟩ = es := by
          show t12 (t12 es) ++ [] ++ two (wN (es.drop 12)) ++ (es.drop 12).drop 2 = es
          rw [ht, htake, two_wN hBd, List.append_nil, List.append_assoc, ← s1, List.take_append_drop]
        rw [putE_ok, hL]
        rintro (hb | hb)
        · rcases hb.2 with h | h
          · exact h rfl
          · exact hw h
        · rw [← ethB_len, hL] at hb; omega
end Go.Sep
