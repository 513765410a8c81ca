import Derived.Test.YtjemdjjmpgjieaaProg
import Derived.Test.YtjemdjjmpgjieaaFH14
import Derived.Test.YtjemdjjmpgjieaaS36
import Derived.Test.YtjemdjjmpgjieaaP14f
set_option linter.unusedVariables false
set_option linter.unusedSimpArgs false
namespace Go.Proofs.Ytjemdjjmpgjieaa.M
open Go Go.Sep Go.Proofs
set_option maxRecDepth 10000
set_option maxHeartbeats 2000000
theorem putU {w0 : World} {H : List Chunk} (bq : Nat) (room last : Int) (a : Option Addr) (n c : Nat) (L : List En) (hn : n = L.length) (hm : n < 100) (x : Fs) (hx : FsOk w0 H x) (hl : 0 ≤ last) (hl2 : last ≤ 4611686018427387904) : SC Try.prog w0 11 #[.pointer (some ⟨bq, 0, none⟩), FsA x] ((.var bq 73 [.int .i64 room, .int .i64 last, .slice a n c] :: .row a n c 80 13 (List.flatMap EnC (L)) :: H)) (fun v H' => ∃ no e last' a' n' c' L' D, v = .tuple #[.int .i64 no, .int .i64 e] ∧ H' = (.var bq 73 [.int .i64 room, .int .i64 last', .slice a' n' c'] :: .row a' n' c' 80 13 (List.flatMap EnC (L')) :: (D ++ H)) ∧ n' = L'.length ∧
    ((chkF x.f ≠ 0 ∧ no = 0 ∧ e = 2 ∧ n' = n ∧ last' = last) ∨ (chkF x.f = 0 ∧ room ≤ n ∧ no = 0 ∧ e = 8 ∧ n' = n ∧ last' = last) ∨ (chkF x.f = 0 ∧ n < room ∧ no = last + 1 ∧ e = 0 ∧ n' = n + 1 ∧ last' = last + 1)) ∧
    ((e ≠ 0 ∧ L' = L ∧ D = []) ∨ (e = 0 ∧ ∃ y : Fs, y.f = x.f ∧ FsOk w0 D y ∧ L' = upL (L ++ [⟨last + 1, y, keyF x.f⟩]) n))) := by
  by_cases hc : chkF x.f = 0
  · rcases Int.lt_or_le (n : Int) room with hf | hf
    · refine SC.satR ((put_ok bq room last a n c L hn hm x hx hc hf hl hl2).mono ?_)
      rintro v H' ⟨a1, c1, a2, c2, rfl, rfl⟩ hs
      refine ⟨_, _, last + 1, a2, n + 1, c2, _, [.row a1 x.f.data.length c1 5 1 (x.f.data.map (.int .u8))], rfl, rfl, by rw [upL_len]; simp [hn], .inr (.inr ⟨hc, hf, rfl, rfl, rfl, rfl⟩), .inr ⟨rfl, (⟨x.f, a1, x.f.data.length, c1⟩ : Fs), rfl, ⟨rfl, ?_, hx.ok, Rd.rowh (satT (H0 := [.row a1 x.f.data.length c1 5 1 (x.f.data.map (.int .u8))]) hs) (At.head _ _)⟩, rfl⟩⟩
      have := hx.max; have := hx.len
      show x.f.data.length ≤ _
      omega
    · refine (put_full bq room last a n c L hn (by omega) x hx hc hf).mono ?_
      rintro v H' ⟨rfl, rfl⟩
      exact ⟨0, 8, last, a, n, c, L, [], rfl, rfl, hn, .inr (.inl ⟨hc, hf, rfl, rfl, rfl, rfl⟩), .inl ⟨by decide, rfl, rfl⟩⟩
  · refine (put_bad bq room last a n c L hn (by omega) x hx hc).mono ?_
    rintro v H' ⟨rfl, rfl⟩
    exact ⟨0, 2, last, a, n, c, L, [], rfl, rfl, hn, .inl ⟨hc, rfl, rfl, rfl, rfl⟩, .inl ⟨by decide, rfl, rfl⟩⟩
theorem getF_mem {ls : List Fs} {w0 : World} {H : List Chunk} (h : ∀ y ∈ ls, FsOk w0 H y) (k : Nat) : FsOk w0 H (ls.getD k default) := getD_mem FsOk.dflt h k
end Go.Proofs.Ytjemdjjmpgjieaa.M
