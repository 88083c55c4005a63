/-
  The last step, part 2: what all rows of this seat share.
-/
import Derived.Test.YteoahfpnkbdkkaaRows
import Derived.Test.YteoahfpnkbdkkaaE1
import Derived.Test.YteoahfpnkbdkkaaD1
namespace Go.Proofs.Yteoahfpnkbdkkaa
open Go.ChangeShapes Go.WideShapes Go.ChangeAt Go.RowKit
set_option linter.unusedVariables false
set_option linter.unusedSimpArgs false

theorem own_ok : ownKnob Try.prog.godebug = none := by kernel_rfl
theorem laid_ok : laidOutB Try.prog = true := by kernel_rfl

abbrev insSh : List Sh := [.int .i64, .int .i64, .int .i64, .int .i64, .int .i64, .int .i64]

theorem Fit.int_inv {k : IntKind} {a : AV} (h : Fit (.int k) a) : ∃ n, a = .int k n ∧ k.min ≤ n ∧ n ≤ k.max := by
  cases h with
  | int k n h0 h1 => exact ⟨n, rfl, h0, h1⟩

theorem fit_ins {r : List AV} (hn : r.length = 6) (h : ∀ (i : Nat) (e : Sh) (a : AV), insSh[i]? = some e → r[i]? = some a → Fit e a) : ∃ x : Ins, r = encIns x := by
  match r, hn with
  | [a0, a1, a2, a3, a4, a5], _ =>
    obtain ⟨n0, rfl, _⟩ := (h 0 _ _ rfl rfl).int_inv
    obtain ⟨n1, rfl, _⟩ := (h 1 _ _ rfl rfl).int_inv
    obtain ⟨n2, rfl, _⟩ := (h 2 _ _ rfl rfl).int_inv
    obtain ⟨n3, rfl, _⟩ := (h 3 _ _ rfl rfl).int_inv
    obtain ⟨n4, rfl, _⟩ := (h 4 _ _ rfl rfl).int_inv
    obtain ⟨n5, rfl, _⟩ := (h 5 _ _ rfl rfl).int_inv
    exact ⟨⟨n0, n1, n2, n3, n4, n5⟩, rfl⟩

theorem rows_of {α : Type} (f : α → List AV) (p : List AV → Prop) (hp : ∀ r, p r → ∃ x, r = f x) : ∀ rows : List (List AV), (∀ r ∈ rows, p r) → ∃ l : List α, rows = l.map f
  | [], _ => ⟨[], rfl⟩
  | r :: rows, h => by
    obtain ⟨x, rfl⟩ := hp r (h r (by simp))
    obtain ⟨l, rfl⟩ := rows_of f p hp rows (fun r hr => h r (by simp [hr]))
    exact ⟨x :: l, rfl⟩

theorem Fit.inss {a : AV} (h : Fit (.list insSh) a) : ∃ l : List Ins, a = encInss l ∧ l.length ≤ maxLen := by
  cases h with
  | list es rows hl hn h =>
    obtain ⟨l, rfl⟩ := rows_of encIns (fun r => r.length = 6 ∧ ∀ (i : Nat) (e : Sh) (a : AV), insSh[i]? = some e → r[i]? = some a → Fit e a) (fun r hr => fit_ins hr.1 hr.2) rows (fun r hr => ⟨hn r hr, h r hr⟩)
    exact ⟨l, rfl, by simpa using hl⟩

theorem Pure.law {P : Program} {f : FuncId} {args : List AV} (h : Pure P f args (.bool true)) : ACalls P f args [] fun r _ => r = .bool true := (h []).mono fun r _ ⟨h, _⟩ => h
end Go.Proofs.Yteoahfpnkbdkkaa
