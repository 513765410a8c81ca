import Derived.Test.YtjemdjjmpgjieaaS25
import Derived.Test.YtjemdjjmpgjieaaS17
set_option linter.unusedVariables false
set_option linter.unusedSimpArgs false
/- Rows of structs that are read are appended, as a value. -/
namespace Go.Sep
open Go Go.RowKit
section
variable {P : Program} {w0 : World} {N : Nat} {r : Option Nat} {fr : Fr} {H : List Chunk} {o : Oper} {α : Type} {enc : α → List Value} {sz : Nat}
theorem NV.apR {Q : Value → List Chunk → Prop} (T : Tab P) [E : RowE enc sz] {cl : Call} {t e : TypeId} {s x : Operand} {a a2 : Option Addr} {n c m c2 : Nat} {ie : TypeInfo} {z : Value} {olds : List Value} (rs : List α) {ys : List α} {k : Chunk → List Chunk}
    (h : ∀ a' c', Q (.slice a' (n + m) c') (k (.row a' (n + m) c' e sz ((rs ++ ys).flatMap enc))))
    (ho : o.op = .call cl := by rfl)
    (hcl : cl = { callee := .builtin .append, args := #[s, x], argTypes := #[t, t] } := by rfl) (hd : T.desc t = some (.slice e) := by rfl) (hi : T.info e = some ie := by rfl) (hz : ie.zero = some z := by rfl)
    (hsz : ie.size = sz := by rfl) (hzs : Nat.beq z.cells.size sz = true := by rfl) (hpos : Nat.blt 0 sz = true := by rfl) (hs : ev fr s = .slice a n c := by rfl) (hx : ev fr x = .slice a2 m c2 := by rfl)
    (hat : At H (.row a n c e sz olds) k := by repeat first | exact At.head _ _ | assumption | exact At.put (by assumption) _ | apply At.tail | apply At.app)
    (holds : olds = rs.flatMap enc := by rfl)
    (hR : (∃ w, Sat w0 w H) → Rd w0 H a2 m c2 sz (ys.flatMap enc) := by intro hs; repeat first | assumption | exact Rd.rowh hs (by repeat first | exact At.head _ _ | apply At.tail | apply At.app) | apply Rd.cons | apply Rd.app | solve_by_elim)
    (hbb : (Nat.ble ie.bytes 2048 = true ∧ n + m ≤ 68719476736) ∨ (Nat.ble ie.bytes 32 = true ∧ n + m ≤ 4398046511104) := by first | exact .inl ⟨rfl, by omega⟩ | exact .inr ⟨rfl, by omega⟩) : NV P w0 r fr H o Q := by
  subst holds
  have hone : ∀ u ∈ ys.flatMap enc, u.oneCell' = true := fun u hu => by
    obtain ⟨y, _, hy⟩ := List.mem_flatMap.1 hu
    exact E.one y u hy
  refine (NV.sat (fun hsat => NV.append T ho hcl hd hi hz hsz hzs hpos hs hx hat (hR hsat) hone (by unfold maxLen; rcases hbb with ⟨_, h⟩ | ⟨_, h⟩ <;> omega) (by rcases hbb with ⟨h1, h2⟩ | ⟨h1, h2⟩ <;> (have := Nat.mul_le_mul h2 (Nat.le_of_ble_eq_true h1); omega)) fun a' c' => ?_) (fun c hc => by rw [ho] at hc; cases hc))
  have := h a' c'
  rwa [List.flatMap_append] at this
theorem RD.shareR {ops : Array Oper} {W : List (Nat × Nat)} {B : List (List Nat)} {K2 : Fr → List Chunk → Prop} {n : Nat} {done : List Nat} {vals : Nat → Value} (F : Option Addr → Nat → Option Addr → Nat → Nat → Nat → Fr) (G : Option Addr → Nat → Option Addr → Nat → Nat → Nat → List Chunk)
    (h1 : (∀ a c a' c' b b', ∀ H', H'.Perm (G a c a' c' b b') → K2 (F a c a' c' b b') H') → RD P w0 r ops W B fr K2 n done vals H) (h2 : ∀ a c a' c' b b', ∀ H', H'.Perm (G a c a' c' b b') → K2 (F a c a' c' b b') H') : RD P w0 r ops W B fr K2 n done vals H := h1 h2
end
end Go.Sep
