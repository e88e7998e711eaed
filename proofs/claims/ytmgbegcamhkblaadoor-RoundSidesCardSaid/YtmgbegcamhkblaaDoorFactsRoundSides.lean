/- What the row of annulus/annuluslaw5.RoundSides asks of the program as closed facts. Conditions: none. -/
import Derived.Test.YtmgbegcamhkblaaDoorCards
import Derived.Test.YtmgbegcamhkblaaDoorTie
import Derived.WalkKit
import Derived.ProofKit
import Derived.OpenShut
import Derived.Deep.DeepHandedRow
import Derived.Lib.LaidTab
set_option linter.unusedSimpArgs false
set_option linter.unusedVariables false
namespace Go.Proofs.YtmgbegcamhkblaaDoor.roundSides
open Go Go.ChangeShapes Go.WideShapes Go.ChangeAt Go.RowKit
theorem facts1 : Tryd.pinned.checked.prog.funcNamed Rows.roundSidesRow.func = some 14 := by kernel_rfl
theorem facts2 : Tryd.f14.isInstance Tryd.pinned.checked.prog Rows.roundSidesRow.origin Rows.roundSidesRow.targs := of_decide_eq_true (by kernel_rfl)
theorem facts3 : Tryd.f14.isWrapper Tryd.pinned.checked.prog Rows.roundSidesRow.wrapper Rows.roundSidesRow.mainSum := by unfold Func.isWrapper; first | (rw [if_pos (by decide +kernel)]; kernel_rfl) | (rw [if_neg (by decide +kernel)]; exact ⟨rfl, rfl⟩)
theorem facts4 : joinedFacts Tryd.pinned.checked.prog 14 Tryd.f14 (OpenSpec.ofChange Rows.roundSidesSpec).bare Rows.roundSidesRow = true := by kernel_rfl
end Go.Proofs.YtmgbegcamhkblaaDoor.roundSides
