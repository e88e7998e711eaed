/- What the row of annulus/annuluslaw5.RoundTwice asks of the program as closed facts. Conditions: none. -/
import Derived.Test.YtmgbegcamhkblaaDoorCards
import Derived.Test.YtmgbegcamhkblaaDoorTie
import Derived.WalkKit
import Derived.ProofKit
import Derived.OpenShut
import Derived.Deep.DeepHandedRow
import Derived.Lib.LaidTab
set_option linter.unusedSimpArgs false
set_option linter.unusedVariables false
namespace Go.Proofs.YtmgbegcamhkblaaDoor.roundTwice
open Go Go.ChangeShapes Go.WideShapes Go.ChangeAt Go.RowKit
theorem facts1 : Tryd.pinned.checked.prog.funcNamed Rows.roundTwiceRow.func = some 17 := by kernel_rfl
theorem facts2 : Tryd.f17.isInstance Tryd.pinned.checked.prog Rows.roundTwiceRow.origin Rows.roundTwiceRow.targs := of_decide_eq_true (by kernel_rfl)
theorem facts3 : Tryd.f17.isWrapper Tryd.pinned.checked.prog Rows.roundTwiceRow.wrapper Rows.roundTwiceRow.mainSum := by unfold Func.isWrapper; first | (rw [if_pos (by decide +kernel)]; kernel_rfl) | (rw [if_neg (by decide +kernel)]; exact ⟨rfl, rfl⟩)
theorem facts4 : joinedFacts Tryd.pinned.checked.prog 17 Tryd.f17 (OpenSpec.ofChange Rows.roundTwiceSpec).bare Rows.roundTwiceRow = true := by kernel_rfl
end Go.Proofs.YtmgbegcamhkblaaDoor.roundTwice
