import Derived.Test.YtjemdjjmpgjieaaProg
import Derived.Test.YtjemdjjmpgjieaaFL14
import Derived.Test.YtjemdjjmpgjieaaS37
import Derived.Test.YtjemdjjmpgjieaaP14b
set_option linter.unusedVariables false
set_option linter.unusedSimpArgs false
namespace Go.Proofs.Ytjemdjjmpgjieaa.M
open Go Go.Sep Go.Proofs
set_option maxRecDepth 10000
set_option maxHeartbeats 2000000
theorem takeU {w0 : World} {H : List Chunk} (bq : Nat) (room last : Int) (a : Option Addr) (n c : Nat) (L : List En) (hn : n = L.length) (hm : n ≤ 100) (hok : ∀ e ∈ L, FsOk w0 H e.fs) : SC Try.prog w0 14 #[.pointer (some ⟨bq, 0, none⟩)] ((.var bq 73 [.int .i64 room, .int .i64 last, .slice a n c] :: .row a n c 80 13 (List.flatMap EnC (L)) :: H)) (fun v H' => ∃ (it : It) (er : Int) (n2 : Nat) (L2 : List En) (D : List Chunk), v = .tuple #[ItA it.no it.fs, .int .i64 er] ∧ H' = (.var bq 73 [.int .i64 room, .int .i64 last, .slice a n2 c] :: .row a n2 c 80 13 (List.flatMap EnC (L2)) :: (D ++ H)) ∧
    ((n = 0 ∧ er = 9 ∧ n2 = 0) ∨ (0 < n ∧ er = 0 ∧ n2 = n - 1)) ∧ ((n = 0 ∧ L2 = L ∧ D = []) ∨ (0 < n ∧ L2 = (popL L).take (L.length - 1) ∧ it.no = (gE L 0).no ∧ it.fs.f = (gE L 0).fs.f ∧ FsOk w0 D it.fs))) := by
  rcases Nat.eq_zero_or_pos n with h0 | h0
  · subst h0
    obtain rfl : L = [] := List.eq_nil_of_length_eq_zero hn.symm
    refine (SC.wk (take_none bq room last a c (H := .row a 0 c 80 13 (List.flatMap EnC ([])) :: H))).mono ?_
    rintro v H' ⟨rfl, rfl⟩
    exact ⟨⟨0, default⟩, 9, 0, [], [], rfl, rfl, .inl ⟨rfl, rfl, rfl⟩, .inl ⟨rfl, rfl, rfl⟩⟩
  · have hx := hok _ (gE_in (L := L) (i := 0) (by omega))
    refine SC.satR ((take_ok bq room last a n c L hn hm h0 hx).mono ?_)
    rintro v H' ⟨a1, c1, rfl, rfl⟩ hs
    refine ⟨⟨(gE L 0).no, (⟨(gE L 0).fs.f, a1, (gE L 0).fs.f.data.length, c1⟩ : Fs)⟩, 0, n - 1, _, [.row a1 (gE L 0).fs.f.data.length c1 5 1 ((gE L 0).fs.f.data.map (.int .u8))], rfl, by rw [hn]; rfl, .inr ⟨h0, rfl, rfl⟩, .inr ⟨h0, rfl, rfl, rfl, rfl, Nat.le_trans (Nat.le_of_eq hx.len.symm) hx.max, hx.ok, Rd.rowh (satT (H0 := [.row a1 (gE L 0).fs.f.data.length c1 5 1 ((gE L 0).fs.f.data.map (.int .u8))]) hs) (At.head _ _)⟩⟩
end Go.Proofs.Ytjemdjjmpgjieaa.M
