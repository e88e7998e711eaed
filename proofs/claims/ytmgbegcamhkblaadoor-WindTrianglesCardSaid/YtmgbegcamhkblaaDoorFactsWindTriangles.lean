/- What the row of annulus/annuluslaw21.WindTriangles asks of the program as closed facts. Conditions: none. -/
import Derived.Test.YtmgbegcamhkblaaDoorCards
import Derived.Test.YtmgbegcamhkblaaDoorTie
import Derived.WalkKit
import Derived.ProofKit
import Derived.OpenShut
import Derived.Deep.DeepHandedRow
import Derived.Lib.LaidTab
set_option linter.unusedSimpArgs false
set_option linter.unusedVariables false
namespace Go.Proofs.YtmgbegcamhkblaaDoor.windTriangles
open Go Go.ChangeShapes Go.WideShapes Go.ChangeAt Go.RowKit
theorem facts1 : Tryd.pinned.checked.prog.funcNamed Rows.windTrianglesRow.func = some 6 := by kernel_rfl
theorem facts2 : Tryd.f6.isInstance Tryd.pinned.checked.prog Rows.windTrianglesRow.origin Rows.windTrianglesRow.targs := of_decide_eq_true (by kernel_rfl)
theorem facts3 : Tryd.f6.isWrapper Tryd.pinned.checked.prog Rows.windTrianglesRow.wrapper Rows.windTrianglesRow.mainSum := by unfold Func.isWrapper; first | (rw [if_pos (by decide +kernel)]; kernel_rfl) | (rw [if_neg (by decide +kernel)]; exact ⟨rfl, rfl⟩)
theorem facts4 : joinedFacts Tryd.pinned.checked.prog 6 Tryd.f6 (OpenSpec.ofChange Rows.windTrianglesSpec).bare Rows.windTrianglesRow = true := by kernel_rfl
end Go.Proofs.YtmgbegcamhkblaaDoor.windTriangles
