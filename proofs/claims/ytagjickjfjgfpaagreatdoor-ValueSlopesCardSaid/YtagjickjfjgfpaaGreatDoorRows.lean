/-
  NARROWER THAN 'FOR EVERY INPUT', by the rows' own cells (each row's printed sentence says how): ElemRows: laid · ElemWide: laid · ElemSums: laid · ElemIn: laid · ElemPlane: laid · ValueExact: laid · ValueZero: laid · ValueSlopes: laid · ValueFractions: laid.
  DERIVED. THE GIVEN ROWS OF THIS SEAT. 9 by the template 'for every input the law returns true; each argument reads behind the call as it read before'; 0 by the template 'total and deterministic' (their statements: YtagjickjfjgfpaaGreatDoorTotals.lean).
  GIVEN WITH THE SEED: the statements are not yours to turn. If you find one false, say at which input.
  Laid BY PROGRAM, IN A SANDBOX (cutbox-rows.mjs): the forced cells as the released guide's own fill.sh prints them over the translation d9d7f213b1de09d7… (all of the seat's roots in one cut). By AI agents, Wed Nov 11 2026. No macro, syntax, notation, axiom, sorry.
-/
import Derived.Test.YtagjickjfjgfpaaGreatDoorChecked
import GoSem.Claim
import GoSem.ClaimJoined
import GoSem.ClaimMapViews
import Derived.JoinedTies
import Derived.KernelRfl
namespace Go.Proofs.YtagjickjfjgfpaaGreatDoor
/- THE CELL 'sum', in the pinned program and in every row, IS THE sha256 OF THE DUMP (.gsa) THAT YtagjickjfjgfpaaGreatDoorProg.lean LOADS. Nothing in Lean hashes anything: it is a label: what it is worth is what the hold of that sum in a sandbox is worth. -/
noncomputable def Tryz.pinned : Pinned := { name := "ytagjickjfjgfpaagreatdoor", sum := "d9d7f213b1de09d7e6c33dbe532b278ed277be72934cbeac0cc7f9045531d4ec", checked := Tryz.checked }
namespace Rows
def none {H : Type} : Left H := { results := [], args := [] }

/- WHAT THE LISTED PACKAGE-LEVEL VARIABLES READ AS WHEN THE CALL BEGINS. Each datum BY PROGRAM (the guide's laid-datum.mjs) off the statement by which the dump's own 'gosem.cut.vars' lays the variable. In a bare row this is a premise. The card (YtagjickjfjgfpaaGreatDoorCards.lean) ties it to the program's text. -/
def laid_math_bits_deBruijn32tab {H : Type} : DataW H := .agg [.lit (.int .u8 0), .lit (.int .u8 1), .lit (.int .u8 28), .lit (.int .u8 2), .lit (.int .u8 29), .lit (.int .u8 14), .lit (.int .u8 24), .lit (.int .u8 3), .lit (.int .u8 30), .lit (.int .u8 22), .lit (.int .u8 20), .lit (.int .u8 15), .lit (.int .u8 25), .lit (.int .u8 17), .lit (.int .u8 4), .lit (.int .u8 8), .lit (.int .u8 31), .lit (.int .u8 27), .lit (.int .u8 13), .lit (.int .u8 23), .lit (.int .u8 21), .lit (.int .u8 19), .lit (.int .u8 16), .lit (.int .u8 7), .lit (.int .u8 26), .lit (.int .u8 12), .lit (.int .u8 18), .lit (.int .u8 6), .lit (.int .u8 11), .lit (.int .u8 5), .lit (.int .u8 10), .lit (.int .u8 9)]

/-- 'annuluslaw23.ElemRows': WHATEVER THE INPUT: true; the input reads as it did. -/
def elemRowsSpec : ChangeSpec := { name := "elemRows", fn := fun _ => fun
  | [d1, d2] => { results := [.lit (.bool true)], args := [d1, d2] }
  | _ => none }
def elemRowsRow : OpenClaim := { program := "ytagjickjfjgfpaagreatdoor", sum := "d9d7f213b1de09d7e6c33dbe532b278ed277be72934cbeac0cc7f9045531d4ec", func := "annulus/annuluslaw23.ElemRows", spec := "elemRows", unfollowed := true, recurses := true, named := ["math/bits.deBruijn32tab"], apart := false, laid := [("math/bits.deBruijn32tab", laid_math_bits_deBruijn32tab)] }
def ElemRowsSaid : Prop := elemRowsRow.holds Tryz.pinned (OpenSpec.ofChange elemRowsSpec)

/-- ITS FALSE NEIGHBOUR: 'it returns false'. Refute it at one input. -/
def elemRowsWrong : ChangeSpec := { name := "elemRows", fn := fun _ => fun
  | [d1, d2] => { results := [.lit (.bool false)], args := [d1, d2] }
  | _ => none }
def ElemRowsWrongFalsely : Prop := elemRowsRow.holds Tryz.pinned (OpenSpec.ofChange elemRowsWrong)

/-- 'annuluslaw23.ElemWide': WHATEVER THE INPUT: true; the input reads as it did. -/
def elemWideSpec : ChangeSpec := { name := "elemWide", fn := fun _ => fun
  | [d1, d2] => { results := [.lit (.bool true)], args := [d1, d2] }
  | _ => none }
def elemWideRow : OpenClaim := { program := "ytagjickjfjgfpaagreatdoor", sum := "d9d7f213b1de09d7e6c33dbe532b278ed277be72934cbeac0cc7f9045531d4ec", func := "annulus/annuluslaw23.ElemWide", spec := "elemWide", unfollowed := true, recurses := true, named := ["math/bits.deBruijn32tab"], apart := false, laid := [("math/bits.deBruijn32tab", laid_math_bits_deBruijn32tab)] }
def ElemWideSaid : Prop := elemWideRow.holds Tryz.pinned (OpenSpec.ofChange elemWideSpec)

/-- ITS FALSE NEIGHBOUR: 'it returns false'. Refute it at one input. -/
def elemWideWrong : ChangeSpec := { name := "elemWide", fn := fun _ => fun
  | [d1, d2] => { results := [.lit (.bool false)], args := [d1, d2] }
  | _ => none }
def ElemWideWrongFalsely : Prop := elemWideRow.holds Tryz.pinned (OpenSpec.ofChange elemWideWrong)

/-- 'annuluslaw23.ElemSums': WHATEVER THE INPUT: true; the input reads as it did. -/
def elemSumsSpec : ChangeSpec := { name := "elemSums", fn := fun _ => fun
  | [d1, d2, d3] => { results := [.lit (.bool true)], args := [d1, d2, d3] }
  | _ => none }
def elemSumsRow : OpenClaim := { program := "ytagjickjfjgfpaagreatdoor", sum := "d9d7f213b1de09d7e6c33dbe532b278ed277be72934cbeac0cc7f9045531d4ec", func := "annulus/annuluslaw23.ElemSums", spec := "elemSums", unfollowed := true, recurses := true, named := ["math/bits.deBruijn32tab"], apart := false, laid := [("math/bits.deBruijn32tab", laid_math_bits_deBruijn32tab)] }
def ElemSumsSaid : Prop := elemSumsRow.holds Tryz.pinned (OpenSpec.ofChange elemSumsSpec)

/-- ITS FALSE NEIGHBOUR: 'it returns false'. Refute it at one input. -/
def elemSumsWrong : ChangeSpec := { name := "elemSums", fn := fun _ => fun
  | [d1, d2, d3] => { results := [.lit (.bool false)], args := [d1, d2, d3] }
  | _ => none }
def ElemSumsWrongFalsely : Prop := elemSumsRow.holds Tryz.pinned (OpenSpec.ofChange elemSumsWrong)

/-- 'annuluslaw23.ElemIn': WHATEVER THE INPUT: true; the input reads as it did. -/
def elemInSpec : ChangeSpec := { name := "elemIn", fn := fun _ => fun
  | [d1, d2, d3, d4] => { results := [.lit (.bool true)], args := [d1, d2, d3, d4] }
  | _ => none }
def elemInRow : OpenClaim := { program := "ytagjickjfjgfpaagreatdoor", sum := "d9d7f213b1de09d7e6c33dbe532b278ed277be72934cbeac0cc7f9045531d4ec", func := "annulus/annuluslaw23.ElemIn", spec := "elemIn", unfollowed := true, recurses := true, named := ["math/bits.deBruijn32tab"], apart := false, laid := [("math/bits.deBruijn32tab", laid_math_bits_deBruijn32tab)] }
def ElemInSaid : Prop := elemInRow.holds Tryz.pinned (OpenSpec.ofChange elemInSpec)

/-- ITS FALSE NEIGHBOUR: 'it returns false'. Refute it at one input. -/
def elemInWrong : ChangeSpec := { name := "elemIn", fn := fun _ => fun
  | [d1, d2, d3, d4] => { results := [.lit (.bool false)], args := [d1, d2, d3, d4] }
  | _ => none }
def ElemInWrongFalsely : Prop := elemInRow.holds Tryz.pinned (OpenSpec.ofChange elemInWrong)

/-- 'annuluslaw23.ElemPlane': WHATEVER THE INPUT: true; the input reads as it did. -/
def elemPlaneSpec : ChangeSpec := { name := "elemPlane", fn := fun _ => fun
  | [d1, d2, d3] => { results := [.lit (.bool true)], args := [d1, d2, d3] }
  | _ => none }
def elemPlaneRow : OpenClaim := { program := "ytagjickjfjgfpaagreatdoor", sum := "d9d7f213b1de09d7e6c33dbe532b278ed277be72934cbeac0cc7f9045531d4ec", func := "annulus/annuluslaw23.ElemPlane", spec := "elemPlane", unfollowed := true, recurses := true, named := ["math/bits.deBruijn32tab"], apart := false, laid := [("math/bits.deBruijn32tab", laid_math_bits_deBruijn32tab)] }
def ElemPlaneSaid : Prop := elemPlaneRow.holds Tryz.pinned (OpenSpec.ofChange elemPlaneSpec)

/-- ITS FALSE NEIGHBOUR: 'it returns false'. Refute it at one input. -/
def elemPlaneWrong : ChangeSpec := { name := "elemPlane", fn := fun _ => fun
  | [d1, d2, d3] => { results := [.lit (.bool false)], args := [d1, d2, d3] }
  | _ => none }
def ElemPlaneWrongFalsely : Prop := elemPlaneRow.holds Tryz.pinned (OpenSpec.ofChange elemPlaneWrong)

/-- 'annuluslaw24.ValueExact': WHATEVER THE INPUT: true; the input reads as it did. -/
def valueExactSpec : ChangeSpec := { name := "valueExact", fn := fun _ => fun
  | [d1, d2] => { results := [.lit (.bool true)], args := [d1, d2] }
  | _ => none }
def valueExactRow : OpenClaim := { program := "ytagjickjfjgfpaagreatdoor", sum := "d9d7f213b1de09d7e6c33dbe532b278ed277be72934cbeac0cc7f9045531d4ec", func := "annulus/annuluslaw24.ValueExact", spec := "valueExact", unfollowed := true, recurses := true, named := ["math/bits.deBruijn32tab"], apart := false, laid := [("math/bits.deBruijn32tab", laid_math_bits_deBruijn32tab)] }
def ValueExactSaid : Prop := valueExactRow.holds Tryz.pinned (OpenSpec.ofChange valueExactSpec)

/-- ITS FALSE NEIGHBOUR: 'it returns false'. Refute it at one input. -/
def valueExactWrong : ChangeSpec := { name := "valueExact", fn := fun _ => fun
  | [d1, d2] => { results := [.lit (.bool false)], args := [d1, d2] }
  | _ => none }
def ValueExactWrongFalsely : Prop := valueExactRow.holds Tryz.pinned (OpenSpec.ofChange valueExactWrong)

/-- 'annuluslaw24.ValueZero': WHATEVER THE INPUT: true; the input reads as it did. -/
def valueZeroSpec : ChangeSpec := { name := "valueZero", fn := fun _ => fun
  | [d1, d2, d3, d4] => { results := [.lit (.bool true)], args := [d1, d2, d3, d4] }
  | _ => none }
def valueZeroRow : OpenClaim := { program := "ytagjickjfjgfpaagreatdoor", sum := "d9d7f213b1de09d7e6c33dbe532b278ed277be72934cbeac0cc7f9045531d4ec", func := "annulus/annuluslaw24.ValueZero", spec := "valueZero", unfollowed := true, recurses := true, named := ["math/bits.deBruijn32tab"], apart := false, laid := [("math/bits.deBruijn32tab", laid_math_bits_deBruijn32tab)] }
def ValueZeroSaid : Prop := valueZeroRow.holds Tryz.pinned (OpenSpec.ofChange valueZeroSpec)

/-- ITS FALSE NEIGHBOUR: 'it returns false'. Refute it at one input. -/
def valueZeroWrong : ChangeSpec := { name := "valueZero", fn := fun _ => fun
  | [d1, d2, d3, d4] => { results := [.lit (.bool false)], args := [d1, d2, d3, d4] }
  | _ => none }
def ValueZeroWrongFalsely : Prop := valueZeroRow.holds Tryz.pinned (OpenSpec.ofChange valueZeroWrong)

/-- 'annuluslaw24.ValueSlopes': WHATEVER THE INPUT: true; the input reads as it did. -/
def valueSlopesSpec : ChangeSpec := { name := "valueSlopes", fn := fun _ => fun
  | [d1, d2] => { results := [.lit (.bool true)], args := [d1, d2] }
  | _ => none }
def valueSlopesRow : OpenClaim := { program := "ytagjickjfjgfpaagreatdoor", sum := "d9d7f213b1de09d7e6c33dbe532b278ed277be72934cbeac0cc7f9045531d4ec", func := "annulus/annuluslaw24.ValueSlopes", spec := "valueSlopes", unfollowed := true, recurses := true, named := ["math/bits.deBruijn32tab"], apart := false, laid := [("math/bits.deBruijn32tab", laid_math_bits_deBruijn32tab)] }
def ValueSlopesSaid : Prop := valueSlopesRow.holds Tryz.pinned (OpenSpec.ofChange valueSlopesSpec)

/-- ITS FALSE NEIGHBOUR: 'it returns false'. Refute it at one input. -/
def valueSlopesWrong : ChangeSpec := { name := "valueSlopes", fn := fun _ => fun
  | [d1, d2] => { results := [.lit (.bool false)], args := [d1, d2] }
  | _ => none }
def ValueSlopesWrongFalsely : Prop := valueSlopesRow.holds Tryz.pinned (OpenSpec.ofChange valueSlopesWrong)

/-- 'annuluslaw24.ValueFractions': WHATEVER THE INPUT: true; the input reads as it did. -/
def valueFractionsSpec : ChangeSpec := { name := "valueFractions", fn := fun _ => fun
  | [d1, d2, d3] => { results := [.lit (.bool true)], args := [d1, d2, d3] }
  | _ => none }
def valueFractionsRow : OpenClaim := { program := "ytagjickjfjgfpaagreatdoor", sum := "d9d7f213b1de09d7e6c33dbe532b278ed277be72934cbeac0cc7f9045531d4ec", func := "annulus/annuluslaw24.ValueFractions", spec := "valueFractions", unfollowed := true, recurses := true, named := ["math/bits.deBruijn32tab"], apart := false, laid := [("math/bits.deBruijn32tab", laid_math_bits_deBruijn32tab)] }
def ValueFractionsSaid : Prop := valueFractionsRow.holds Tryz.pinned (OpenSpec.ofChange valueFractionsSpec)

/-- ITS FALSE NEIGHBOUR: 'it returns false'. Refute it at one input. -/
def valueFractionsWrong : ChangeSpec := { name := "valueFractions", fn := fun _ => fun
  | [d1, d2, d3] => { results := [.lit (.bool false)], args := [d1, d2, d3] }
  | _ => none }
def ValueFractionsWrongFalsely : Prop := valueFractionsRow.holds Tryz.pinned (OpenSpec.ofChange valueFractionsWrong)

/- THE SECOND FORM. 'bulk': how many values and letters a reading holds, each counted each time it is reached (what is shared counts as often as it is met; a slice's spare places count too). A statement '..UptoSaid' is the law's where the arguments, and the package variables that the reading takes, are together of bulk at most 1048576: NARROWER than '..Said'. Prove '..Said' where nothing that the law and all that it calls make is longer than what came in: it says more and counts as full. Else prove '..UptoSaid'. A law counts once. -/
mutual
def uptoBulk {H : Type} : DataW H → Nat
  | .lit (.string bytes) => bytes.length + 1
  | .lit _ => 1
  | .nil => 1
  | .ptr d => uptoBulk d + 1
  | .slice elems spare => uptoBulkAll elems + uptoBulkAll spare + 1
  | .agg parts => uptoBulkAll parts + 1
  | .iface _ d => uptoBulk d + 1
  | .map entries => uptoBulkEntries entries + 1
  | .held _ => 1
def uptoBulkAll {H : Type} : List (DataW H) → Nat
  | [] => 0
  | d :: r => uptoBulk d + uptoBulkAll r
def uptoBulkEntries {H : Type} : List (Lit × DataW H) → Nat
  | [] => 0
  | x :: r => uptoBulkEntry x + uptoBulkEntries r
def uptoBulkEntry {H : Type} : Lit × DataW H → Nat
  | (.string bytes, d) => bytes.length + uptoBulk d + 1
  | (_, d) => uptoBulk d + 1
 end
def uptoSmall : (H : Type) → List (DataW H) → Bool := fun _ ds => decide (uptoBulkAll ds ≤ 1048576)
def OpenSpec.upto (s : _root_.Go.ChangeSpec) : _root_.Go.OpenSpec := { _root_.Go.OpenSpec.ofChange s with cond := some uptoSmall }

/-- 'annuluslaw23.ElemRows', WHERE WHAT IT READS IS OF BULK AT MOST 1048576: true; the input reads as it did. -/
def elemRowsUptoRow : OpenClaim := { program := "ytagjickjfjgfpaagreatdoor", sum := "d9d7f213b1de09d7e6c33dbe532b278ed277be72934cbeac0cc7f9045531d4ec", func := "annulus/annuluslaw23.ElemRows", spec := "elemRows", unfollowed := true, recurses := true, named := ["math/bits.deBruijn32tab"], apart := false, laid := [("math/bits.deBruijn32tab", laid_math_bits_deBruijn32tab)], narrowed := true }
def ElemRowsUptoSaid : Prop := elemRowsUptoRow.holds Tryz.pinned (OpenSpec.upto elemRowsSpec)

/-- 'annuluslaw23.ElemWide', WHERE WHAT IT READS IS OF BULK AT MOST 1048576: true; the input reads as it did. -/
def elemWideUptoRow : OpenClaim := { program := "ytagjickjfjgfpaagreatdoor", sum := "d9d7f213b1de09d7e6c33dbe532b278ed277be72934cbeac0cc7f9045531d4ec", func := "annulus/annuluslaw23.ElemWide", spec := "elemWide", unfollowed := true, recurses := true, named := ["math/bits.deBruijn32tab"], apart := false, laid := [("math/bits.deBruijn32tab", laid_math_bits_deBruijn32tab)], narrowed := true }
def ElemWideUptoSaid : Prop := elemWideUptoRow.holds Tryz.pinned (OpenSpec.upto elemWideSpec)

/-- 'annuluslaw23.ElemSums', WHERE WHAT IT READS IS OF BULK AT MOST 1048576: true; the input reads as it did. -/
def elemSumsUptoRow : OpenClaim := { program := "ytagjickjfjgfpaagreatdoor", sum := "d9d7f213b1de09d7e6c33dbe532b278ed277be72934cbeac0cc7f9045531d4ec", func := "annulus/annuluslaw23.ElemSums", spec := "elemSums", unfollowed := true, recurses := true, named := ["math/bits.deBruijn32tab"], apart := false, laid := [("math/bits.deBruijn32tab", laid_math_bits_deBruijn32tab)], narrowed := true }
def ElemSumsUptoSaid : Prop := elemSumsUptoRow.holds Tryz.pinned (OpenSpec.upto elemSumsSpec)

/-- 'annuluslaw23.ElemIn', WHERE WHAT IT READS IS OF BULK AT MOST 1048576: true; the input reads as it did. -/
def elemInUptoRow : OpenClaim := { program := "ytagjickjfjgfpaagreatdoor", sum := "d9d7f213b1de09d7e6c33dbe532b278ed277be72934cbeac0cc7f9045531d4ec", func := "annulus/annuluslaw23.ElemIn", spec := "elemIn", unfollowed := true, recurses := true, named := ["math/bits.deBruijn32tab"], apart := false, laid := [("math/bits.deBruijn32tab", laid_math_bits_deBruijn32tab)], narrowed := true }
def ElemInUptoSaid : Prop := elemInUptoRow.holds Tryz.pinned (OpenSpec.upto elemInSpec)

/-- 'annuluslaw23.ElemPlane', WHERE WHAT IT READS IS OF BULK AT MOST 1048576: true; the input reads as it did. -/
def elemPlaneUptoRow : OpenClaim := { program := "ytagjickjfjgfpaagreatdoor", sum := "d9d7f213b1de09d7e6c33dbe532b278ed277be72934cbeac0cc7f9045531d4ec", func := "annulus/annuluslaw23.ElemPlane", spec := "elemPlane", unfollowed := true, recurses := true, named := ["math/bits.deBruijn32tab"], apart := false, laid := [("math/bits.deBruijn32tab", laid_math_bits_deBruijn32tab)], narrowed := true }
def ElemPlaneUptoSaid : Prop := elemPlaneUptoRow.holds Tryz.pinned (OpenSpec.upto elemPlaneSpec)

/-- 'annuluslaw24.ValueExact', WHERE WHAT IT READS IS OF BULK AT MOST 1048576: true; the input reads as it did. -/
def valueExactUptoRow : OpenClaim := { program := "ytagjickjfjgfpaagreatdoor", sum := "d9d7f213b1de09d7e6c33dbe532b278ed277be72934cbeac0cc7f9045531d4ec", func := "annulus/annuluslaw24.ValueExact", spec := "valueExact", unfollowed := true, recurses := true, named := ["math/bits.deBruijn32tab"], apart := false, laid := [("math/bits.deBruijn32tab", laid_math_bits_deBruijn32tab)], narrowed := true }
def ValueExactUptoSaid : Prop := valueExactUptoRow.holds Tryz.pinned (OpenSpec.upto valueExactSpec)

/-- 'annuluslaw24.ValueZero', WHERE WHAT IT READS IS OF BULK AT MOST 1048576: true; the input reads as it did. -/
def valueZeroUptoRow : OpenClaim := { program := "ytagjickjfjgfpaagreatdoor", sum := "d9d7f213b1de09d7e6c33dbe532b278ed277be72934cbeac0cc7f9045531d4ec", func := "annulus/annuluslaw24.ValueZero", spec := "valueZero", unfollowed := true, recurses := true, named := ["math/bits.deBruijn32tab"], apart := false, laid := [("math/bits.deBruijn32tab", laid_math_bits_deBruijn32tab)], narrowed := true }
def ValueZeroUptoSaid : Prop := valueZeroUptoRow.holds Tryz.pinned (OpenSpec.upto valueZeroSpec)

/-- 'annuluslaw24.ValueSlopes', WHERE WHAT IT READS IS OF BULK AT MOST 1048576: true; the input reads as it did. -/
def valueSlopesUptoRow : OpenClaim := { program := "ytagjickjfjgfpaagreatdoor", sum := "d9d7f213b1de09d7e6c33dbe532b278ed277be72934cbeac0cc7f9045531d4ec", func := "annulus/annuluslaw24.ValueSlopes", spec := "valueSlopes", unfollowed := true, recurses := true, named := ["math/bits.deBruijn32tab"], apart := false, laid := [("math/bits.deBruijn32tab", laid_math_bits_deBruijn32tab)], narrowed := true }
def ValueSlopesUptoSaid : Prop := valueSlopesUptoRow.holds Tryz.pinned (OpenSpec.upto valueSlopesSpec)

/-- 'annuluslaw24.ValueFractions', WHERE WHAT IT READS IS OF BULK AT MOST 1048576: true; the input reads as it did. -/
def valueFractionsUptoRow : OpenClaim := { program := "ytagjickjfjgfpaagreatdoor", sum := "d9d7f213b1de09d7e6c33dbe532b278ed277be72934cbeac0cc7f9045531d4ec", func := "annulus/annuluslaw24.ValueFractions", spec := "valueFractions", unfollowed := true, recurses := true, named := ["math/bits.deBruijn32tab"], apart := false, laid := [("math/bits.deBruijn32tab", laid_math_bits_deBruijn32tab)], narrowed := true }
def ValueFractionsUptoSaid : Prop := valueFractionsUptoRow.holds Tryz.pinned (OpenSpec.upto valueFractionsSpec)

end Rows
end Go.Proofs.YtagjickjfjgfpaaGreatDoor
