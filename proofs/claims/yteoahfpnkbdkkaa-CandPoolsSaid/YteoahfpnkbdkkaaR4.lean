/-
  The row of CandPools.
-/
import Derived.Test.YteoahfpnkbdkkaaE2
import Derived.Test.YteoahfpnkbdkkaaDB
namespace Go.Proofs.Yteoahfpnkbdkkaa
open Go.ChangeShapes Go.WideShapes Go.ChangeAt Go.RowKit
set_option linter.unusedVariables false
set_option linter.unusedSimpArgs false

theorem candPools_law : ∀ av, FitAs [.one (.list insSh), .one (.list insSh), .one (.int .i64), .one (.int .i64)] av → ACalls Try.prog 6 av [] fun r _ => r = .bool true := by
  rintro _ ⟨a, _, rfl, h1, b, _, rfl, h2, c, _, rfl, h3, d, _, rfl, h4, rfl⟩
  obtain ⟨f, rfl, _⟩ := h1.inss
  obtain ⟨g, rfl, _⟩ := h2.inss
  obtain ⟨k, rfl, _⟩ := h3.int_inv
  obtain ⟨fuel, rfl, _⟩ := h4.int_inv
  exact (CandPools_ok f g k fuel).law

set_option maxRecDepth 100000 in
theorem candPools_lifted (os : Os) (started : os.Started) (H : Type) (enc : TypeId × Value → H) :
    ReturnsInHanded {} Try.checked os 6 .any (Rows.candPoolsSpec.pre6 enc Try.prog Try.f6 Rows.candPoolsRow.domain false) (Rows.candPoolsSpec.post enc Try.prog Try.f6 false true false false) := by
  refine returnsInHanded_of_change (C := Try.checked) own_ok started (by kernel_rfl) Try.func6
    (ChangeSpec.witness6 (enc := enc) (C := Try.checked) false ⟨#[], #[.slice none 0 0, .slice none 0 0, .int .i64 0, .int .i64 0], []⟩ 8 (by kernel_rfl) (by kernel_rfl) (by kernel_rfl) (by kernel_rfl)) ?_
  intro W base args ds gs before hval0 hW hcnd _
  exact law_contract (base := base) laid_ok rfl (by kernel_rfl) (by kernel_rfl) (by kernel_rfl)
    (fun ds hl => by
      match ds, hl with
      | [d1, d2, d3, d4], _ => rfl) candPools_law hval0 hW

set_option maxRecDepth 100000 in
/-- **CandPools.** -/
theorem candPools_holds : Rows.CandPoolsSaid :=
  OpenClaim.holds_of_wide 6 Try.f6 rfl rfl rfl rfl rfl rfl rfl ⟨rfl, rfl, rfl, rfl, rfl⟩ rfl rfl rfl rfl rfl (by kernel_rfl) Try.func6 (by kernel_rfl)
    (of_decide_eq_true (by kernel_rfl)) (by unfold Func.isWrapper; rw [if_neg (by decide +kernel)]; exact ⟨rfl, rfl⟩)
    (fun os started H enc _ => candPools_lifted os started H enc)
end Go.Proofs.Yteoahfpnkbdkkaa
