/- What the row of annulus/annuluslaw4.DyadForms asks of the program as closed facts. Conditions: none. -/
import Derived.Test.YtmgbegcamhkblaaDoorCards
import Derived.Test.YtmgbegcamhkblaaDoorTie
import Derived.WalkKit
import Derived.ProofKit
import Derived.OpenShut
import Derived.Deep.DeepHandedRow
import Derived.Lib.LaidTab
set_option linter.unusedSimpArgs false
set_option linter.unusedVariables false
namespace Go.Proofs.YtmgbegcamhkblaaDoor.dyadForms
open Go Go.ChangeShapes Go.WideShapes Go.ChangeAt Go.RowKit
theorem facts1 : Tryd.pinned.checked.prog.funcNamed Rows.dyadFormsRow.func = some 9 := by kernel_rfl
theorem facts2 : Tryd.f9.isInstance Tryd.pinned.checked.prog Rows.dyadFormsRow.origin Rows.dyadFormsRow.targs := of_decide_eq_true (by kernel_rfl)
theorem facts3 : Tryd.f9.isWrapper Tryd.pinned.checked.prog Rows.dyadFormsRow.wrapper Rows.dyadFormsRow.mainSum := by unfold Func.isWrapper; first | (rw [if_pos (by decide +kernel)]; kernel_rfl) | (rw [if_neg (by decide +kernel)]; exact ⟨rfl, rfl⟩)
theorem facts4 : joinedFacts Tryd.pinned.checked.prog 9 Tryd.f9 (OpenSpec.ofChange Rows.dyadFormsSpec).bare Rows.dyadFormsRow = true := by kernel_rfl
end Go.Proofs.YtmgbegcamhkblaaDoor.dyadForms
