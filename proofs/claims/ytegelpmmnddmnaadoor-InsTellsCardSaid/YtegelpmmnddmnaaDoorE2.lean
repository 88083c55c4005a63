/-
  The last step, part 2: what all rows of this seat share.
-/
import Derived.Test.YtegelpmmnddmnaaDoorE3
namespace Go.Proofs.YtegelpmmnddmnaaDoor
open Go.ChangeShapes Go.WideShapes Go.ChangeAt Go.RowKit
set_option linter.unusedVariables false
set_option linter.unusedSimpArgs false

abbrev insSh : List Sh := [.int .i64, .int .i64, .int .i64, .int .i64, .int .i64, .int .i64]

theorem Fit.int_inv {k : IntKind} {a : AV} (h : Fit (.int k) a) : ∃ n, a = .int k n ∧ k.min ≤ n ∧ n ≤ k.max := by
  cases h with
  | int k n h0 h1 => exact ⟨n, rfl, h0, h1⟩
theorem Fit.i64 {a : AV} (h : Fit (.int .i64) a) : ∃ n, a = .int .i64 n ∧ in64 n := by
  obtain ⟨n, rfl, h0, h1⟩ := h.int_inv
  exact ⟨n, rfl, h0, h1⟩
theorem Fit.u8 {a : AV} (h : Fit (.int .u8) a) : ∃ n : Nat, a = .int .u8 (n : Int) ∧ n < 256 := by
  obtain ⟨n, rfl, h0, h1⟩ := h.int_inv
  have e0 : IntKind.u8.min = 0 := rfl
  have e1 : IntKind.u8.max = 255 := rfl
  exact ⟨n.toNat, by congr 1; omega, by omega⟩
theorem Fit.str_inv {a : AV} (h : Fit .str a) : ∃ l : List UInt8, a = .str (bs l) ∧ l.length ≤ maxLen := by
  cases h with
  | str s h => exact ⟨s.data.toList, congrArg AV.str (bs_of s), bs_size (l := s.data.toList) ▸ h⟩

theorem fit_ins {r : List AV} (hn : r.length = 6) (h : ∀ (i : Nat) (e : Sh) (a : AV), insSh[i]? = some e → r[i]? = some a → Fit e a) : ∃ x : Ins, r = encIns x ∧ (in64 x.op ∧ in64 x.d ∧ in64 x.a ∧ in64 x.b ∧ in64 x.n ∧ in64 x.to) := by
  match r, hn with
  | [a0, a1, a2, a3, a4, a5], _ =>
    obtain ⟨n0, rfl, g0⟩ := (h 0 _ _ rfl rfl).i64
    obtain ⟨n1, rfl, g1⟩ := (h 1 _ _ rfl rfl).i64
    obtain ⟨n2, rfl, g2⟩ := (h 2 _ _ rfl rfl).i64
    obtain ⟨n3, rfl, g3⟩ := (h 3 _ _ rfl rfl).i64
    obtain ⟨n4, rfl, g4⟩ := (h 4 _ _ rfl rfl).i64
    obtain ⟨n5, rfl, g5⟩ := (h 5 _ _ rfl rfl).i64
    exact ⟨⟨n0, n1, n2, n3, n4, n5⟩, rfl, g0, g1, g2, g3, g4, g5⟩
theorem FitA.ins {a : AV} (h : FitA (.agg insSh) a) : ∃ x : Ins, a = insA x ∧ (in64 x.op ∧ in64 x.d ∧ in64 x.a ∧ in64 x.b ∧ in64 x.n ∧ in64 x.to) := by
  obtain ⟨r, rfl, hr⟩ := h
  obtain ⟨x, rfl, hx⟩ := fit_ins hr.1 hr.2
  exact ⟨x, rfl, hx⟩

theorem Pure.law {P : Program} {f : FuncId} {args : List AV} (h : Pure P f args (.bool true)) : ACalls P f args [] fun r _ => r = .bool true := (h []).mono fun r _ ⟨h, _⟩ => h
end Go.Proofs.YtegelpmmnddmnaaDoor
