import Derived.Test.YtjemdjjmpgjieaaProg
import Derived.Test.YtjemdjjmpgjieaaFI14
import Derived.Test.YtjemdjjmpgjieaaS37
import Derived.Test.YtjemdjjmpgjieaaLY14
import Derived.Test.YtjemdjjmpgjieaaP14f
import Derived.Shelf.SlSortCmp.NoneTotal
set_option linter.unusedVariables false
set_option linter.unusedSimpArgs false
namespace Go.Proofs.Ytjemdjjmpgjieaa.M
open Go Go.Sep Go.Proofs Go.Shelf
set_option maxRecDepth 10000
set_option maxHeartbeats 2000000
theorem fun58q : Fun Try.prog 58 := Fun.mk Try.func58 (by kernel_rfl) (by kernel_rfl)
theorem swoE : Go.Sort.SWO (ltOf cmpE) := by
  have e : ∀ x y, ltOf cmpE x y = ltE x y := fun _ _ => rfl
  refine ⟨fun x => ?_, fun x y z h1 h2 => ?_, fun x y z h1 h2 => ?_⟩
  · rw [e, ltE_not]; omega
  · rw [e, ltE_iff] at *; omega
  · rw [e, ltE_not] at *; omega
theorem cmpLaysE (blk off size : Nat) (w : World) : CmpLays Try.prog 45 #[] EnC 13 cmpE blk off size w :=
  fun _ _ _ _ x y => (compareE (H := []) x y _ (Sat.start _)).mono fun _ _ ⟨_, _, he, hs, hv, hH⟩ => by
    subst hH
    exact ⟨by rw [he, hv], grown_of hs⟩
theorem sortC {w0 : World} {H : List Chunk} (a : Option Addr) (n c : Nat) (L : List En) (hn : n = L.length) (hm : n ≤ 100) : SC Try.prog w0 58 #[.slice a n c, .func (.func 45) #[] #[]] (.row a n c 80 13 (List.flatMap EnC (L)) :: H) (fun v H' => ∃ L', v = .tuple #[] ∧ L'.Perm L ∧ SortedE L' ∧ H' = .row a n c 80 13 (List.flatMap EnC (L')) :: H) := by
  intro w hw
  have ho := hw.holds _ (List.mem_cons_self ..)
  rcases Nat.eq_zero_or_pos n with h0 | h0
  · subst h0
    obtain rfl : L = [] := List.eq_nil_of_length_eq_zero hn.symm
    exact (AnyF.slices_SortFunc_none laysSort a c _ w).mono fun e w' ⟨h1, h2⟩ => ⟨_, _, h1, by rw [h2]; exact hw, [], rfl, .refl _, fun i j h h2 => by simp at h2, rfl⟩
  · rcases ho.2 with ⟨h1, h2⟩ | ⟨g, cap, cur, h1, hB, hg, hnc, hcm, hcs, htake⟩
    · omega
    · cases h1
      have hsz : L.toArray.size = n := by simp [hn]
      have hfl : (Go.Sort.flatK EnC 13 L.toArray).toList = L.flatMap EnC := flatK_list (enc := EnC) (k := 13) (fun _ => rfl) (by decide) L
      have hgl : g < w.heap.size := (Array.getElem?_eq_some_iff.1 hg).1
      have hH : Go.Sort.HoldsK EnC 13 w g 0 L.toArray := by
        intro j hj
        constructor
        · rw [cell_of_row w g (0 + j) _ _ _ hg, Nat.zero_add]
          have hj2 : j < n * 13 := by simpa [hn] using hj
          have e1 : cur[j]? = (cur.toList.take (n * 13))[j]? := by rw [List.getElem?_take, if_pos hj2, Array.getElem?_toList]
          rw [e1, htake, ← hfl, Array.getElem?_toList, Array.getElem?_eq_getElem hj, getElem!_pos _ j hj]
          rfl
        · simp [World.frozen?, hg]
      have hc := AnyQ.slices_SortFunc laysSort 13 Try.isAgg80 Try.sizeOf80 EnC (fun _ => rfl) (fun x v hv => (inferInstance : RowE EnC 13).one x v hv) cmpE swoE 45 #[] g 0 c L.toArray w fun45 (cmpLaysE g 0 _ w) hH hgl (by rw [hsz]; omega)
      rw [hsz] at hc
      refine hc.mono fun e w' ⟨h1, d', m, os, hp, hs, hw'⟩ => ?_
      obtain ⟨l'⟩ := d'
      have hl : l'.length = L.length := by simpa using hp.1
      have hperm : l'.Perm L := by
        have := hp.2.2
        rw [Array.toList_extract, Array.toList_extract] at this
        simpa [List.extract_eq_take_drop, List.take_of_length_le, hl, hn] using this
      refine ⟨_, _, h1, ?_, l', rfl, hperm, fun i j hij hj => ?_, rfl⟩
      · rw [hw']; exact Sat.sorted (enc := EnC) (sz := 13) (fun _ => rfl) (by decide) hl hn hw
      · have hjl : j < l'.length := hj
        have := hs i j (Nat.zero_le _) hij (by omega)
        have e1 : ∀ k, k < l'.length → (l'.toArray)[k]! = gE l' k := fun k hk => by
          rw [getElem!_pos l'.toArray k (by simpa using hk)]
          unfold gE; rw [List.getD_eq_getElem?_getD, List.getElem?_eq_getElem hk]; rfl
        rw [e1 j hjl, e1 i (by omega)] at this
        exact this
end Go.Proofs.Ytjemdjjmpgjieaa.M
