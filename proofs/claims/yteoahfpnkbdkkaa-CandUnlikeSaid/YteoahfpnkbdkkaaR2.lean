/-
  The row of CandUnlike.
-/
import Derived.Test.YteoahfpnkbdkkaaE2
import Derived.Test.YteoahfpnkbdkkaaDA
namespace Go.Proofs.Yteoahfpnkbdkkaa
open Go.ChangeShapes Go.WideShapes Go.ChangeAt Go.RowKit
set_option linter.unusedVariables false
set_option linter.unusedSimpArgs false

theorem candUnlike_law : ∀ av, FitAs [.one (.list insSh), .one (.list insSh)] av → ACalls Try.prog 4 av [] fun r _ => r = .bool true := by
  rintro _ ⟨a, _, rfl, h1, b, _, rfl, h2, rfl⟩
  obtain ⟨f, rfl, _⟩ := h1.inss
  obtain ⟨g, rfl, _⟩ := h2.inss
  exact (CandUnlike_ok f g).law

set_option maxRecDepth 100000 in
theorem candUnlike_lifted (os : Os) (started : os.Started) (H : Type) (enc : TypeId × Value → H) :
    ReturnsInHanded {} Try.checked os 4 .any (Rows.candUnlikeSpec.pre6 enc Try.prog Try.f4 Rows.candUnlikeRow.domain false) (Rows.candUnlikeSpec.post enc Try.prog Try.f4 false true false false) := by
  refine returnsInHanded_of_change (C := Try.checked) own_ok started (by kernel_rfl) Try.func4
    (ChangeSpec.witness6 (enc := enc) (C := Try.checked) false ⟨#[], #[.slice none 0 0, .slice none 0 0], []⟩ 8 (by kernel_rfl) (by kernel_rfl) (by kernel_rfl) (by kernel_rfl)) ?_
  intro W base args ds gs before hval0 hW hcnd _
  exact law_contract (base := base) laid_ok rfl (by kernel_rfl) (by kernel_rfl) (by kernel_rfl)
    (fun ds hl => by
      match ds, hl with
      | [d1, d2], _ => rfl) candUnlike_law hval0 hW

set_option maxRecDepth 100000 in
/-- **CandUnlike.** -/
theorem candUnlike_holds : Rows.CandUnlikeSaid :=
  OpenClaim.holds_of_wide 4 Try.f4 rfl rfl rfl rfl rfl rfl rfl ⟨rfl, rfl, rfl, rfl, rfl⟩ rfl rfl rfl rfl rfl (by kernel_rfl) Try.func4 (by kernel_rfl)
    (of_decide_eq_true (by kernel_rfl)) (by unfold Func.isWrapper; rw [if_neg (by decide +kernel)]; exact ⟨rfl, rfl⟩)
    (fun os started H enc _ => candUnlike_lifted os started H enc)
end Go.Proofs.Yteoahfpnkbdkkaa
