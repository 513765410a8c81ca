import Derived.Test.YtojghialjpianaaProg
import Derived.Test.YtojghialjpianaaFH16
import Derived.Test.YtojghialjpianaaP16f
set_option linter.unusedVariables false
set_option linter.unusedSimpArgs false
namespace Go.Proofs.Ytojghialjpianaa.M
open Go Go.Sep Go.Proofs
set_option maxRecDepth 10000
set_option maxHeartbeats 2000000
theorem popV {w0 : World} {H : List Chunk} (b : Nat) (R : Nat → Fs) (room first n over : Nat) (kk : Chunk → List Chunk) (hat : At H (.var b 57 (FifoC R room first n over)) kk) (L : List Fs) (hL : RingIs R first L) (hn : n = L.length) : SC Try.prog w0 15 #[.pointer (some ⟨b, 0, none⟩)] H (fun v H' => ∃ R' first' n' L', v = .tuple #[FsA (L.getD 0 default), .int .i64 (if n = 0 then 9 else 0)] ∧ H' = kk (.var b 57 (FifoC R' room ((first' : Nat) : Int) ((n' : Nat) : Int) over)) ∧ RingIs R' first' L' ∧ n' = L'.length ∧ L' = L.tail) := by
  by_cases h0 : n = 0
  · refine (pop_none b R room first n over kk hat h0).mono ?_
    rintro _ _ ⟨rfl, rfl⟩
    obtain rfl : L = [] := List.eq_nil_of_length_eq_zero (by omega)
    subst h0
    exact ⟨R, first, 0, [], rfl, hat.same.symm, hL, rfl, rfl⟩
  · refine (popU b R room first n over kk hat L hL hn (by omega)).mono ?_
    rintro _ _ ⟨R', first', rfl, rfl, h⟩
    exact ⟨R', first', n - 1, L.tail, by rw [if_neg h0], rfl, h, by rw [List.length_tail]; omega, rfl⟩
theorem clearV {w0 : World} {H : List Chunk} (b : Nat) (R : Nat → Fs) (room first n over : Nat) (kk : Chunk → List Chunk) (hat : At H (.var b 57 (FifoC R room first n over)) kk) (L : List Fs) (hL : RingIs R first L) (hn : n = L.length) (hok : ∀ x ∈ L, FsOk w0 H x) : SC Try.prog w0 22 #[.pointer (some ⟨b, 0, none⟩)] H (fun v H' => ∃ a c out R' first' n' over' L', v = .slice a n c ∧ out.length = n ∧ frs out = frs L ∧ (∀ x ∈ out, x.n = x.f.data.length) ∧ H' = .row a n c 31 11 (List.flatMap FsC out) :: (rowsOf out ++ kk (.var b 57 (FifoC R' room ((first' : Nat) : Int) ((n' : Nat) : Int) ((over' : Nat) : Int)))) ∧ RingIs R' first' L' ∧ n' = L'.length ∧ L' = [] ∧ over' = 0) := by
  refine (fclear b R room first n over kk hat L hL hn hok).mono ?_
  rintro _ _ ⟨a, c, out, rfl, h1, h2, h3, rfl⟩
  exact ⟨a, c, out, (fun _ => default), 0, 0, 0, [], rfl, h1, h2, h3, rfl, RingIs.nil _, rfl, rfl, rfl⟩
theorem rpopV {w0 : World} {H : List Chunk} (b : Nat) (room over : Nat) (a : Option Addr) (n c : Nat) (kk : Chunk → List Chunk) (hat : At H (.var b 48 [.int .i64 room, .int .i64 over, .slice a n c]) kk) (M : List Fs) (hR : Rd w0 H a n c 11 (M.flatMap FsC)) (hn : n = M.length) (hm : n ≤ 4398046511000) : SC Try.prog w0 20 #[.pointer (some ⟨b, 0, none⟩)] H (fun v H' => ∃ a' n' c' M', v = .tuple #[FsA (M.getD 0 default), .int .i64 (if n = 0 then 9 else 0)] ∧ H' = kk (.var b 48 [.int .i64 room, .int .i64 over, .slice a' n' c']) ∧ n' = M'.length ∧ M' = M.tail ∧ (∀ G, Rd w0 G a n c 11 (M.flatMap FsC) → Rd w0 G a' n' c' 11 (M'.flatMap FsC))) := by
  by_cases h0 : n = 0
  · refine (rpop_none b room over a n c kk hat M hR hn hm h0).mono ?_
    rintro _ _ ⟨rfl, rfl⟩
    obtain rfl : M = [] := List.eq_nil_of_length_eq_zero (by omega)
    subst h0
    exact ⟨a, 0, c, [], rfl, hat.same.symm, rfl, rfl, fun G h => h⟩
  · refine (rpop_ok b room over a n c kk hat M hR hn hm (by omega)).mono ?_
    rintro _ _ ⟨rfl, rfl⟩
    refine ⟨_, _, _, M.tail, by rw [if_neg h0], rfl, by rw [List.length_tail]; omega, rfl, fun G h => ?_⟩
    have h2 := Rd.sub h (l := 1) (h := n) (by omega) (Nat.le_refl _)
    have e : ((M.flatMap FsC).drop (1 * 11)).take ((n - 1) * 11) = M.tail.flatMap FsC := by
      cases M with
      | nil => simp at hn; omega
      | cons y M =>
        have hl : (M.flatMap FsC).length = M.length * 11 := flat11 FsC (fun _ => rfl) M
        rw [List.flatMap_cons, List.drop_left' (by rfl), List.take_of_length_le (by rw [hl]; simp at hn; omega)]
        rfl
    rw [e] at h2
    exact h2
theorem rpushV {w0 : World} {H : List Chunk} (b : Nat) (room over : Nat) (a : Option Addr) (n c : Nat) (kk : Chunk → List Chunk) (hat : At H (.var b 48 [.int .i64 room, .int .i64 over, .slice a n c]) kk) (M : List Fs) (hR : Rd w0 H a n c 11 (M.flatMap FsC)) (hn : n = M.length) (hm : n ≤ 4398046511000) (x : Fs) (hx : FsOk w0 H x) (hn3 : n ≤ 300) (ho : over < 4611686018427387904) : SC Try.prog w0 23 #[.pointer (some ⟨b, 0, none⟩), FsA x] H (fun v H' => ∃ D over' a' n' c' M', v = .tuple #[.bool (pushI room n x.f), .int .i64 (chkF x.f)] ∧ H' = D ++ kk (.var b 48 [.int .i64 room, .int .i64 ((over' : Nat) : Int), .slice a' n' c']) ∧ n' = M'.length ∧ frs M' = pushL room (frs M) x.f ∧ over' = pushO room n over x.f ∧ (∀ y ∈ M', y ∈ M ∨ FsOk w0 D y) ∧ (∀ G, Rd w0 G a n c 11 (M.flatMap FsC) → Rd w0 (D ++ G) a' n' c' 11 (M'.flatMap FsC))) := by
  have hl := frs_len M
  by_cases hc : chkF x.f = 0
  · by_cases hnr : n < room
    · refine (rpush_ok b room over a n c kk hat M hR hn hm x hx hc (by omega) hn3).mono ?_
      rintro _ _ ⟨D, a1, c1, x1, rfl, rfl, hf, hk, hr⟩
      refine ⟨D, over, a1, n + 1, c1, M ++ [x1], by rw [pushI, decide_eq_true ⟨hc, hnr⟩, hc], rfl, by simp [hn], ?_, ?_, ?_, fun G _ => hr.appr⟩
      · rw [pushL, if_pos ⟨hc, by omega⟩, frs_app, ← hf]; rfl
      · rw [pushO, if_neg (by omega)]
      · intro y hy
        refine (List.mem_append.1 hy).imp id fun h => ?_
        rw [List.mem_singleton.1 h]; exact hk
    · refine (rpush_full b room over a n c kk hat M hR hn hm x hx hc (by omega) (by omega) (by omega)).mono ?_
      rintro _ _ ⟨rfl, rfl⟩
      refine ⟨[], over + 1, a, n, c, M, by rw [pushI, decide_eq_false (by omega), hc], rfl, hn, ?_, ?_, fun y hy => .inl hy, fun G h => h⟩
      · rw [pushL, if_neg (by omega)]
      · rw [pushO, if_pos ⟨hc, by omega⟩]
  · refine (rpush_bad b room over a n c kk hat M hR hn hm x hx hc).mono ?_
    rintro _ _ ⟨rfl, rfl⟩
    refine ⟨[], over, a, n, c, M, by rw [pushI, decide_eq_false (by omega), show chkF x.f = 2 from (chkF_or x.f).resolve_left hc], hat.same.symm, hn, ?_, ?_, fun y hy => .inl hy, fun G h => h⟩
    · rw [pushL, if_neg (by omega)]
    · rw [pushO, if_neg (by omega)]
theorem rfsameT {w0 : World} {H : List Chunk} (f : Frm) (sa : Option Addr) (n c : Nat) (hR : Rd w0 H sa n c 1 (f.data.map (.int .u8))) (hn : n = f.data.length) (hm : n ≤ 140737488351232) (hf : FrOk f) (g : Frm) (sb : Option Addr) (m d : Nat) (hS : Rd w0 H sb m d 1 (g.data.map (.int .u8))) (hn2 : m = g.data.length) (hm2 : m ≤ 140737488351232) (hg : FrOk g) (he : f = g) : SC Try.prog w0 21 #[FA f sa n c, FA g sb m d] H (fun v H' => v = .bool true ∧ H' = H) := by
  have h := rfsame f sa n c hR hn hm hf g sb m d hS hn2 hm2 hg
  rw [show sameF f g = true from sameF_iff.2 he] at h
  exact h
theorem samesT {w0 : World} {H : List Chunk} (ps qs : List Fs) (sa sb : Option Addr) (n c m d : Nat) (hR : Rd w0 H sa n c 11 (ps.flatMap FsC)) (hS : Rd w0 H sb m d 11 (qs.flatMap FsC)) (hn : n = ps.length) (hm : m = qs.length) (hn2 : n ≤ 4398046511104) (hm2 : m ≤ 4398046511104) (hA : ∀ x ∈ ps, FsOk w0 H x) (hB : ∀ x ∈ qs, FsOk w0 H x) (he : frs ps = frs qs) : SC Try.prog w0 17 #[.slice sa n c, .slice sb m d] H (fun v H' => v = .bool true ∧ H' = H) := by
  have h := sames ps qs sa sb n c m d hR hS hn hm hn2 hm2 hA hB
  rw [decide_eq_true he] at h
  exact h
end Go.Proofs.Ytojghialjpianaa.M
