/- What the row of annulus/annuluslaw21.WindBack asks of the program as closed facts. Conditions: none. -/
import Derived.Test.YtmgbegcamhkblaaDoorCards
import Derived.Test.YtmgbegcamhkblaaDoorTie
import Derived.WalkKit
import Derived.ProofKit
import Derived.OpenShut
import Derived.Deep.DeepHandedRow
import Derived.Lib.LaidTab
set_option linter.unusedSimpArgs false
set_option linter.unusedVariables false
namespace Go.Proofs.YtmgbegcamhkblaaDoor.windBack
open Go Go.ChangeShapes Go.WideShapes Go.ChangeAt Go.RowKit
theorem facts1 : Tryd.pinned.checked.prog.funcNamed Rows.windBackRow.func = some 4 := by kernel_rfl
theorem facts2 : Tryd.f4.isInstance Tryd.pinned.checked.prog Rows.windBackRow.origin Rows.windBackRow.targs := of_decide_eq_true (by kernel_rfl)
theorem facts3 : Tryd.f4.isWrapper Tryd.pinned.checked.prog Rows.windBackRow.wrapper Rows.windBackRow.mainSum := by unfold Func.isWrapper; first | (rw [if_pos (by decide +kernel)]; kernel_rfl) | (rw [if_neg (by decide +kernel)]; exact ⟨rfl, rfl⟩)
theorem facts4 : joinedFacts Tryd.pinned.checked.prog 4 Tryd.f4 (OpenSpec.ofChange Rows.windBackSpec).bare Rows.windBackRow = true := by kernel_rfl
end Go.Proofs.YtmgbegcamhkblaaDoor.windBack
