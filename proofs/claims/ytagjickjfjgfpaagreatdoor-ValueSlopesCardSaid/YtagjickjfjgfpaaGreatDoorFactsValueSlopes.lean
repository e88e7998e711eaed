/- Contracts of the given functions, on data. Conditions stand in each theorem. -/
import Derived.Test.YtagjickjfjgfpaaGreatDoorCards
import Derived.Test.YtagjickjfjgfpaaGreatDoorTie
import Derived.WalkKit
import Derived.ProofKit
import Derived.OpenShut
import Derived.Deep.DeepHandedRow
import Derived.Lib.LaidTab
set_option linter.unusedSimpArgs false
set_option linter.unusedVariables false
namespace Go.Proofs.YtagjickjfjgfpaaGreatDoor.valueSlopes
open Go Go.ChangeShapes Go.WideShapes Go.ChangeAt Go.RowKit
theorem facts1 : Tryz.pinned.checked.prog.funcNamed Rows.valueSlopesRow.func = some 10 := by kernel_rfl
theorem facts2 : Tryz.f10.isInstance Tryz.pinned.checked.prog Rows.valueSlopesRow.origin Rows.valueSlopesRow.targs := of_decide_eq_true (by kernel_rfl)
theorem facts3 : Tryz.f10.isWrapper Tryz.pinned.checked.prog Rows.valueSlopesRow.wrapper Rows.valueSlopesRow.mainSum := by unfold Func.isWrapper; first | (rw [if_pos (by decide +kernel)]; kernel_rfl) | (rw [if_neg (by decide +kernel)]; exact ⟨rfl, rfl⟩)
theorem and_split {a b : Bool} (h : a = true) (k : b = true) : (a && b) = true := by rw [h, k]; rfl
set_option maxRecDepth 100000 in
set_option maxHeartbeats 100000000 in
theorem facts4 : joinedFacts Tryz.pinned.checked.prog 10 Tryz.f10 (OpenSpec.ofChange Rows.valueSlopesSpec).bare Rows.valueSlopesRow = true := by
  unfold joinedFacts
  repeat' (with_reducible refine and_split ?_ ?_)
  all_goals as_aux_lemma => kernel_rfl
end Go.Proofs.YtagjickjfjgfpaaGreatDoor.valueSlopes
