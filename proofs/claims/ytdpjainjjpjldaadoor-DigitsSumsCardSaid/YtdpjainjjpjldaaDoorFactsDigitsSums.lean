/- Contracts of the given functions, on data. Conditions stand in each theorem. -/
import Derived.Test.YtdpjainjjpjldaaDoorCards
import Derived.Test.YtdpjainjjpjldaaDoorTie
import Derived.WalkKit
import Derived.ProofKit
import Derived.OpenShut
import Derived.Deep.DeepHandedRow
import Derived.Lib.LaidTab
set_option linter.unusedSimpArgs false
set_option linter.unusedVariables false
namespace Go.Proofs.YtdpjainjjpjldaaDoor.digitsSums
open Go Go.ChangeShapes Go.WideShapes Go.ChangeAt Go.RowKit
theorem facts1 : Tryd.pinned.checked.prog.funcNamed Rows.digitsSumsRow.func = some 5 := by kernel_rfl
theorem facts2 : Tryd.f5.isInstance Tryd.pinned.checked.prog Rows.digitsSumsRow.origin Rows.digitsSumsRow.targs := of_decide_eq_true (by kernel_rfl)
theorem facts3 : Tryd.f5.isWrapper Tryd.pinned.checked.prog Rows.digitsSumsRow.wrapper Rows.digitsSumsRow.mainSum := by unfold Func.isWrapper; first | (rw [if_pos (by decide +kernel)]; kernel_rfl) | (rw [if_neg (by decide +kernel)]; exact ⟨rfl, rfl⟩)
theorem and_split {a b : Bool} (h : a = true) (k : b = true) : (a && b) = true := by rw [h, k]; rfl
set_option maxRecDepth 100000 in
set_option maxHeartbeats 100000000 in
theorem facts4 : joinedFacts Tryd.pinned.checked.prog 5 Tryd.f5 (OpenSpec.ofChange Rows.digitsSumsSpec).bare Rows.digitsSumsRow = true := by
  unfold joinedFacts
  repeat' (with_reducible refine and_split ?_ ?_)
  all_goals as_aux_lemma => kernel_rfl
end Go.Proofs.YtdpjainjjpjldaaDoor.digitsSums
