import Derived.Test.YtjemdjjmpgjieaaProg
import Derived.Test.YtjemdjjmpgjieaaFQ14
import Derived.Test.YtjemdjjmpgjieaaP14f
import Derived.Test.YtjemdjjmpgjieaaS37
set_option linter.unusedVariables false
set_option linter.unusedSimpArgs false
namespace Go.Proofs.Ytjemdjjmpgjieaa.M
open Go Go.Sep Go.Proofs
set_option maxRecDepth 10000
set_option maxHeartbeats 2000000
theorem headV {w0 : World} {H : List Chunk} (bq : Nat) (room last : Int) (a : Option Addr) (n c : Nat) (L : List En) (hn : n = L.length) (hm : n ≤ 100) (hok : ∀ e ∈ L, FsOk w0 H e.fs) {G0 : List Chunk} {M : List It} (hQ : QR w0 L last G0 M) : SC Try.prog w0 21 #[.pointer (some ⟨bq, 0, none⟩)] (.var bq 73 [.int .i64 room, .int .i64 last, .slice a n c] :: .row a n c 80 13 (List.flatMap EnC (L)) :: H) (fun v H' => ∃ (it : It) (er : Int) (D : List Chunk), v = .tuple #[ItA it.no it.fs, .int .i64 er] ∧ H' = (D ++ (.var bq 73 [.int .i64 room, .int .i64 last, .slice a n c] :: .row a n c 80 13 (List.flatMap EnC (L)) :: H)) ∧ FsOk w0 D it.fs ∧ er = (if n = 0 then 9 else 0) ∧ it.no = (M.getD 0 default).no ∧ it.fs.f = (M.getD 0 default).fs.f) := by
  have hl := hQ.len
  rcases Nat.eq_zero_or_pos n with h0 | h0
  · subst h0
    obtain rfl : L = [] := List.eq_nil_of_length_eq_zero hn.symm
    obtain rfl : M = [] := List.eq_nil_of_length_eq_zero hl
    refine (SC.wk (head_none bq room last a c (H := .row a 0 c 80 13 (List.flatMap EnC ([])) :: H))).mono ?_
    rintro v H' ⟨rfl, rfl⟩
    exact ⟨⟨0, default⟩, 9, [], rfl, rfl, FsOk.dflt, rfl, rfl, rfl⟩
  · have hx := hok _ (gE_in (L := L) (i := 0) (by omega))
    have hh := hQ.head (by omega)
    refine SC.satR ((head_ok bq room last a n c L hn hm h0 hx).mono ?_)
    rintro v H' ⟨a1, c1, rfl, rfl⟩ hs
    exact ⟨⟨(gE L 0).no, (⟨(gE L 0).fs.f, a1, (gE L 0).fs.f.data.length, c1⟩ : Fs)⟩, 0, [.row a1 (gE L 0).fs.f.data.length c1 5 1 ((gE L 0).fs.f.data.map (.int .u8))], rfl, rfl, ⟨rfl, Nat.le_trans (Nat.le_of_eq hx.len.symm) hx.max, hx.ok, Rd.rowh (satT (H0 := [.row a1 (gE L 0).fs.f.data.length c1 5 1 ((gE L 0).fs.f.data.map (.int .u8))]) hs) (At.head _ _)⟩, by rw [if_neg (by omega)], hh.1, hh.2⟩
theorem takeV {w0 : World} {H : List Chunk} (bq : Nat) (room last : Int) (a : Option Addr) (n c : Nat) (L : List En) (hn : n = L.length) (hm : n ≤ 100) (hok : ∀ e ∈ L, FsOk w0 H e.fs) {G0 : List Chunk} {M : List It} (hQ : QR w0 L last G0 M) : SC Try.prog w0 14 #[.pointer (some ⟨bq, 0, none⟩)] (.var bq 73 [.int .i64 room, .int .i64 last, .slice a n c] :: .row a n c 80 13 (List.flatMap EnC (L)) :: H) (fun v H' => ∃ (it : It) (er : Int) (n1 : Nat) (L1 : List En) (D : List Chunk), v = .tuple #[ItA it.no it.fs, .int .i64 er] ∧ H' = (.var bq 73 [.int .i64 room, .int .i64 last, .slice a n1 c] :: .row a n1 c 80 13 (List.flatMap EnC (L1)) :: (D ++ H)) ∧ FsOk w0 D it.fs ∧ er = (if n = 0 then 9 else 0) ∧ (it.no = (M.getD 0 default).no ∧ it.fs.f = (M.getD 0 default).fs.f) ∧ n1 = L1.length ∧ n1 ≤ n ∧ QR w0 L1 last G0 M.tail) := by
  have hl := hQ.len
  rcases Nat.eq_zero_or_pos n with h0 | h0
  · subst h0
    obtain rfl : L = [] := List.eq_nil_of_length_eq_zero hn.symm
    obtain rfl : M = [] := List.eq_nil_of_length_eq_zero hl
    refine (SC.wk (take_none bq room last a c (H := .row a 0 c 80 13 (List.flatMap EnC ([])) :: H))).mono ?_
    rintro v H' ⟨rfl, rfl⟩
    exact ⟨⟨0, default⟩, 9, 0, [], [], rfl, rfl, FsOk.dflt, rfl, ⟨rfl, rfl⟩, rfl, Nat.le_refl _, hQ⟩
  · have hx := hok _ (gE_in (L := L) (i := 0) (by omega))
    have hh := hQ.head (by omega)
    have ht := hQ.tail (by omega)
    refine SC.satR ((take_ok bq room last a n c L hn hm h0 hx).mono ?_)
    rintro v H' ⟨a1, c1, rfl, rfl⟩ hs
    rw [← hn] at ht
    exact ⟨⟨(gE L 0).no, (⟨(gE L 0).fs.f, a1, (gE L 0).fs.f.data.length, c1⟩ : Fs)⟩, 0, n - 1, _, [.row a1 (gE L 0).fs.f.data.length c1 5 1 ((gE L 0).fs.f.data.map (.int .u8))], rfl, rfl, ⟨rfl, Nat.le_trans (Nat.le_of_eq hx.len.symm) hx.max, hx.ok, Rd.rowh (satT (H0 := [.row a1 (gE L 0).fs.f.data.length c1 5 1 ((gE L 0).fs.f.data.map (.int .u8))]) hs) (At.head _ _)⟩, by rw [if_neg (by omega)], hh, by rw [List.length_take, popL_len]; omega, by omega, ht⟩
theorem rheadV {w0 : World} {H : List Chunk} (br : Nat) (room last : Int) (a : Option Addr) (n c : Nat) (M : List It) (hR : Rd w0 H a n c 12 (M.flatMap ItC)) (hn : n = M.length) (hm : n ≤ 100) : SC Try.prog w0 22 #[.pointer (some ⟨br, 0, none⟩)] (.var br 47 [.int .i64 room, .int .i64 last, .slice a n c] :: H) (fun v H' => v = .tuple #[ItA (M.getD 0 default).no (M.getD 0 default).fs, .int .i64 (if n = 0 then 9 else 0)] ∧ H' = (.var br 47 [.int .i64 room, .int .i64 last, .slice a n c] :: H)) := by
  rcases Nat.eq_zero_or_pos n with h0 | h0
  · subst h0
    obtain rfl : M = [] := List.eq_nil_of_length_eq_zero hn.symm
    exact rhead_none br room last a c
  · refine (rhead_ok br room last a n c M hR hn hm h0).mono ?_
    rintro v H' ⟨rfl, rfl⟩
    exact ⟨by rw [if_neg (by omega)], rfl⟩
theorem rtakeV {w0 : World} {H : List Chunk} (br : Nat) (room last : Int) (a : Option Addr) (n c : Nat) (M : List It) (hR : Rd w0 H a n c 12 (M.flatMap ItC)) (hn : n = M.length) (hm : n ≤ 100) : SC Try.prog w0 17 #[.pointer (some ⟨br, 0, none⟩)] (.var br 47 [.int .i64 room, .int .i64 last, .slice a n c] :: H) (fun v H' => ∃ (a1 : Option Addr) (n1 c1 : Nat), v = .tuple #[ItA (M.getD 0 default).no (M.getD 0 default).fs, .int .i64 (if n = 0 then 9 else 0)] ∧ H' = (.var br 47 [.int .i64 room, .int .i64 last, .slice a1 n1 c1] :: H) ∧ n1 = M.tail.length ∧ ∀ G, Rd w0 G a n c 12 (M.flatMap ItC) → Rd w0 G a1 n1 c1 12 (M.tail.flatMap ItC)) := by
  rcases Nat.eq_zero_or_pos n with h0 | h0
  · subst h0
    obtain rfl : M = [] := List.eq_nil_of_length_eq_zero hn.symm
    refine (rtake_none br room last a c).mono ?_
    rintro v H' ⟨rfl, rfl⟩
    exact ⟨a, 0, c, rfl, rfl, rfl, fun G h => h⟩
  · refine (rtake_ok br room last a n c M hR hn hm h0).mono ?_
    rintro v H' ⟨rfl, rfl⟩
    refine ⟨_, _, _, by rw [if_neg (by omega)], rfl, by rw [List.length_tail]; omega, fun G h => ?_⟩
    have := rdD (l := 1) h hn (by omega)
    rwa [List.drop_one] at this
theorem rputV {w0 : World} {H : List Chunk} (br : Nat) (room last : Int) (a : Option Addr) (n c : Nat) (M : List It) (hR : Rd w0 H a n c 12 (M.flatMap ItC)) (hn : n = M.length) (hm : n ≤ 100) (x : Fs) (hx : FsOk w0 H x) (hm2 : n < 100) (hl : 0 ≤ last) (hl2 : last ≤ 4611686018427387904) (hM : ∀ y ∈ M, FsOk w0 H y.fs) (hMc : ∀ y ∈ M, chkF y.fs.f = 0) : SC Try.prog w0 23 #[.pointer (some ⟨br, 0, none⟩), FsA x] (.var br 47 [.int .i64 room, .int .i64 last, .slice a n c] :: H) (fun v H' => ∃ (no er last' : Int) (a' : Option Addr) (n' c' : Nat) (M' : List It) (D : List Chunk), v = .tuple #[.int .i64 no, .int .i64 er] ∧ H' = (.var br 47 [.int .i64 room, .int .i64 last', .slice a' n' c'] :: (D ++ H)) ∧ n' = M'.length ∧ (∀ G, Rd w0 G a n c 12 (M.flatMap ItC) → Rd w0 (D ++ G) a' n' c' 12 (M'.flatMap ItC)) ∧
    ((chkF x.f ≠ 0 ∧ no = 0 ∧ er = 2 ∧ n' = n ∧ last' = last) ∨ (chkF x.f = 0 ∧ room ≤ n ∧ no = 0 ∧ er = 8 ∧ n' = n ∧ last' = last) ∨ (chkF x.f = 0 ∧ n < room ∧ no = last + 1 ∧ er = 0 ∧ n' = n + 1 ∧ last' = last + 1)) ∧
    ((er ≠ 0 ∧ M' = M ∧ D = []) ∨ (er = 0 ∧ ∃ (j : Nat) (x1 : Fs), j ≤ n ∧ x1.f = x.f ∧ FsOk w0 D x1 ∧ M' = M.take j ++ [⟨last + 1, x1⟩] ++ M.drop j ∧ (∀ i, j ≤ i → i < n → keyF x.f < keyF (M.getD i default).fs.f) ∧ (j = 0 ∨ keyF (M.getD (j - 1) default).fs.f ≤ keyF x.f)))) := by
  by_cases hc : chkF x.f = 0
  · rcases Int.lt_or_le (n : Int) room with hf | hf
    · refine (rput_ok br room last a n c M hR hn hm2 x hx hc hf hl hl2 hM hMc).mono ?_
      rintro v H' ⟨D, a1, c1, j, x1, rfl, rfl, hj, hxf, hx1, hRd, hk1, hk2⟩
      exact ⟨last + 1, 0, last + 1, a1, n + 1, c1, _, D, rfl, rfl, by simp; omega, (fun G _ => hRd.appr), .inr (.inr ⟨hc, hf, rfl, rfl, rfl, rfl⟩), .inr ⟨rfl, j, x1, hj, hxf, hx1, rfl, hk1, hk2⟩⟩
    · refine (rput_full br room last a n c M hR hn hm x hx hc hf).mono ?_
      rintro v H' ⟨rfl, rfl⟩
      exact ⟨0, 8, last, a, n, c, M, [], rfl, rfl, hn, (fun G h => h), .inr (.inl ⟨hc, hf, rfl, rfl, rfl, rfl⟩), .inl ⟨by decide, rfl, rfl⟩⟩
  · refine (rput_bad br room last a n c M hR hn hm x hx hc).mono ?_
    rintro v H' ⟨rfl, rfl⟩
    exact ⟨0, 2, last, a, n, c, M, [], rfl, rfl, hn, (fun G h => h), .inl ⟨hc, rfl, rfl, rfl, rfl⟩, .inl ⟨by decide, rfl, rfl⟩⟩
end Go.Proofs.Ytjemdjjmpgjieaa.M
