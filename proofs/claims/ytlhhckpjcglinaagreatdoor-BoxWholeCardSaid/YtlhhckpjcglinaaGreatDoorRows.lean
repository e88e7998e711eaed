/-
  NARROWER THAN 'FOR EVERY INPUT', by the rows' own cells (each row's printed sentence says how): BoxTells: laid · BoxWhole: laid · RealTells: laid · RealRounds: laid · RealHolds: laid · RectRounds: laid · RectPoints: laid · RectLess: laid · RectTells: laid · RectHolds: laid.
  DERIVED. THE GIVEN ROWS OF THIS SEAT. 10 by the template 'for every input the law returns true; each argument reads behind the call as it read before'; 0 by the template 'total and deterministic' (their statements: YtlhhckpjcglinaaGreatDoorTotals.lean).
  GIVEN WITH THE SEED: the statements are not yours to turn. If you find one false, say at which input.
  Laid BY PROGRAM, IN A SANDBOX (cutbox-rows.mjs): the forced cells as the released guide's own fill.sh prints them over the translation 22d05d663bf3a376… (all of the seat's roots in one cut). By AI agents, Wed Nov 11 2026. No macro, syntax, notation, axiom, sorry.
-/
import Derived.Test.YtlhhckpjcglinaaGreatDoorChecked
import GoSem.Claim
import GoSem.ClaimJoined
import GoSem.ClaimMapViews
import Derived.JoinedTies
import Derived.KernelRfl
namespace Go.Proofs.YtlhhckpjcglinaaGreatDoor
/- THE CELL 'sum', in the pinned program and in every row, IS THE sha256 OF THE DUMP (.gsa) THAT YtlhhckpjcglinaaGreatDoorProg.lean LOADS. Nothing in Lean hashes anything: it is a label: what it is worth is what the hold of that sum in a sandbox is worth. -/
noncomputable def Tryz.pinned : Pinned := { name := "ytlhhckpjcglinaagreatdoor", sum := "22d05d663bf3a376de3d08891a5535e23f6b2fafb3ffdc2ed04d0f89fbb00cfb", checked := Tryz.checked }
namespace Rows
def none {H : Type} : Left H := { results := [], args := [] }

/- WHAT THE LISTED PACKAGE-LEVEL VARIABLES READ AS WHEN THE CALL BEGINS. Each datum BY PROGRAM (the guide's laid-datum.mjs) off the statement by which the dump's own 'gosem.cut.vars' lays the variable. In a bare row this is a premise. The card (YtlhhckpjcglinaaGreatDoorCards.lean) ties it to the program's text. -/
def laid_math_bits_deBruijn32tab {H : Type} : DataW H := .agg [.lit (.int .u8 0), .lit (.int .u8 1), .lit (.int .u8 28), .lit (.int .u8 2), .lit (.int .u8 29), .lit (.int .u8 14), .lit (.int .u8 24), .lit (.int .u8 3), .lit (.int .u8 30), .lit (.int .u8 22), .lit (.int .u8 20), .lit (.int .u8 15), .lit (.int .u8 25), .lit (.int .u8 17), .lit (.int .u8 4), .lit (.int .u8 8), .lit (.int .u8 31), .lit (.int .u8 27), .lit (.int .u8 13), .lit (.int .u8 23), .lit (.int .u8 21), .lit (.int .u8 19), .lit (.int .u8 16), .lit (.int .u8 7), .lit (.int .u8 26), .lit (.int .u8 12), .lit (.int .u8 18), .lit (.int .u8 6), .lit (.int .u8 11), .lit (.int .u8 5), .lit (.int .u8 10), .lit (.int .u8 9)]

/-- 'annuluslaw16.BoxTells': WHATEVER THE INPUT: true; the input reads as it did. -/
def boxTellsSpec : ChangeSpec := { name := "boxTells", fn := fun _ => fun
  | [d1, d2, d3] => { results := [.lit (.bool true)], args := [d1, d2, d3] }
  | _ => none }
def boxTellsRow : OpenClaim := { program := "ytlhhckpjcglinaagreatdoor", sum := "22d05d663bf3a376de3d08891a5535e23f6b2fafb3ffdc2ed04d0f89fbb00cfb", func := "annulus/annuluslaw16.BoxTells", spec := "boxTells", named := ["math/bits.deBruijn32tab"], apart := false, laid := [("math/bits.deBruijn32tab", laid_math_bits_deBruijn32tab)] }
def BoxTellsSaid : Prop := boxTellsRow.holds Tryz.pinned (OpenSpec.ofChange boxTellsSpec)

/-- ITS FALSE NEIGHBOUR: 'it returns false'. Refute it at one input. -/
def boxTellsWrong : ChangeSpec := { name := "boxTells", fn := fun _ => fun
  | [d1, d2, d3] => { results := [.lit (.bool false)], args := [d1, d2, d3] }
  | _ => none }
def BoxTellsWrongFalsely : Prop := boxTellsRow.holds Tryz.pinned (OpenSpec.ofChange boxTellsWrong)

/-- 'annuluslaw16.BoxWhole': WHATEVER THE INPUT: true; the input reads as it did. -/
def boxWholeSpec : ChangeSpec := { name := "boxWhole", fn := fun _ => fun
  | [d1, d2] => { results := [.lit (.bool true)], args := [d1, d2] }
  | _ => none }
def boxWholeRow : OpenClaim := { program := "ytlhhckpjcglinaagreatdoor", sum := "22d05d663bf3a376de3d08891a5535e23f6b2fafb3ffdc2ed04d0f89fbb00cfb", func := "annulus/annuluslaw16.BoxWhole", spec := "boxWhole", named := ["math/bits.deBruijn32tab"], apart := false, laid := [("math/bits.deBruijn32tab", laid_math_bits_deBruijn32tab)] }
def BoxWholeSaid : Prop := boxWholeRow.holds Tryz.pinned (OpenSpec.ofChange boxWholeSpec)

/-- ITS FALSE NEIGHBOUR: 'it returns false'. Refute it at one input. -/
def boxWholeWrong : ChangeSpec := { name := "boxWhole", fn := fun _ => fun
  | [d1, d2] => { results := [.lit (.bool false)], args := [d1, d2] }
  | _ => none }
def BoxWholeWrongFalsely : Prop := boxWholeRow.holds Tryz.pinned (OpenSpec.ofChange boxWholeWrong)

/-- 'annuluslaw7.RealTells': WHATEVER THE INPUT: true; the input reads as it did. -/
def realTellsSpec : ChangeSpec := { name := "realTells", fn := fun _ => fun
  | [d1, d2, d3, d4] => { results := [.lit (.bool true)], args := [d1, d2, d3, d4] }
  | _ => none }
def realTellsRow : OpenClaim := { program := "ytlhhckpjcglinaagreatdoor", sum := "22d05d663bf3a376de3d08891a5535e23f6b2fafb3ffdc2ed04d0f89fbb00cfb", func := "annulus/annuluslaw7.RealTells", spec := "realTells", named := ["math/bits.deBruijn32tab"], apart := false, laid := [("math/bits.deBruijn32tab", laid_math_bits_deBruijn32tab)] }
def RealTellsSaid : Prop := realTellsRow.holds Tryz.pinned (OpenSpec.ofChange realTellsSpec)

/-- ITS FALSE NEIGHBOUR: 'it returns false'. Refute it at one input. -/
def realTellsWrong : ChangeSpec := { name := "realTells", fn := fun _ => fun
  | [d1, d2, d3, d4] => { results := [.lit (.bool false)], args := [d1, d2, d3, d4] }
  | _ => none }
def RealTellsWrongFalsely : Prop := realTellsRow.holds Tryz.pinned (OpenSpec.ofChange realTellsWrong)

/-- 'annuluslaw7.RealRounds': WHATEVER THE INPUT: true; the input reads as it did. -/
def realRoundsSpec : ChangeSpec := { name := "realRounds", fn := fun _ => fun
  | [d1, d2, d3] => { results := [.lit (.bool true)], args := [d1, d2, d3] }
  | _ => none }
def realRoundsRow : OpenClaim := { program := "ytlhhckpjcglinaagreatdoor", sum := "22d05d663bf3a376de3d08891a5535e23f6b2fafb3ffdc2ed04d0f89fbb00cfb", func := "annulus/annuluslaw7.RealRounds", spec := "realRounds", named := ["math/bits.deBruijn32tab"], apart := false, laid := [("math/bits.deBruijn32tab", laid_math_bits_deBruijn32tab)] }
def RealRoundsSaid : Prop := realRoundsRow.holds Tryz.pinned (OpenSpec.ofChange realRoundsSpec)

/-- ITS FALSE NEIGHBOUR: 'it returns false'. Refute it at one input. -/
def realRoundsWrong : ChangeSpec := { name := "realRounds", fn := fun _ => fun
  | [d1, d2, d3] => { results := [.lit (.bool false)], args := [d1, d2, d3] }
  | _ => none }
def RealRoundsWrongFalsely : Prop := realRoundsRow.holds Tryz.pinned (OpenSpec.ofChange realRoundsWrong)

/-- 'annuluslaw7.RealHolds': WHATEVER THE INPUT: true; the input reads as it did. -/
def realHoldsSpec : ChangeSpec := { name := "realHolds", fn := fun _ => fun
  | [d1, d2, d3, d4, d5, d6] => { results := [.lit (.bool true)], args := [d1, d2, d3, d4, d5, d6] }
  | _ => none }
def realHoldsRow : OpenClaim := { program := "ytlhhckpjcglinaagreatdoor", sum := "22d05d663bf3a376de3d08891a5535e23f6b2fafb3ffdc2ed04d0f89fbb00cfb", func := "annulus/annuluslaw7.RealHolds", spec := "realHolds", named := ["math/bits.deBruijn32tab"], apart := false, laid := [("math/bits.deBruijn32tab", laid_math_bits_deBruijn32tab)] }
def RealHoldsSaid : Prop := realHoldsRow.holds Tryz.pinned (OpenSpec.ofChange realHoldsSpec)

/-- ITS FALSE NEIGHBOUR: 'it returns false'. Refute it at one input. -/
def realHoldsWrong : ChangeSpec := { name := "realHolds", fn := fun _ => fun
  | [d1, d2, d3, d4, d5, d6] => { results := [.lit (.bool false)], args := [d1, d2, d3, d4, d5, d6] }
  | _ => none }
def RealHoldsWrongFalsely : Prop := realHoldsRow.holds Tryz.pinned (OpenSpec.ofChange realHoldsWrong)

/-- 'annuluslaw9.RectRounds': WHATEVER THE INPUT: true; the input reads as it did. -/
def rectRoundsSpec : ChangeSpec := { name := "rectRounds", fn := fun _ => fun
  | [d1, d2, d3] => { results := [.lit (.bool true)], args := [d1, d2, d3] }
  | _ => none }
def rectRoundsRow : OpenClaim := { program := "ytlhhckpjcglinaagreatdoor", sum := "22d05d663bf3a376de3d08891a5535e23f6b2fafb3ffdc2ed04d0f89fbb00cfb", func := "annulus/annuluslaw9.RectRounds", spec := "rectRounds", named := ["math/bits.deBruijn32tab"], apart := false, laid := [("math/bits.deBruijn32tab", laid_math_bits_deBruijn32tab)] }
def RectRoundsSaid : Prop := rectRoundsRow.holds Tryz.pinned (OpenSpec.ofChange rectRoundsSpec)

/-- ITS FALSE NEIGHBOUR: 'it returns false'. Refute it at one input. -/
def rectRoundsWrong : ChangeSpec := { name := "rectRounds", fn := fun _ => fun
  | [d1, d2, d3] => { results := [.lit (.bool false)], args := [d1, d2, d3] }
  | _ => none }
def RectRoundsWrongFalsely : Prop := rectRoundsRow.holds Tryz.pinned (OpenSpec.ofChange rectRoundsWrong)

/-- 'annuluslaw9.RectPoints': WHATEVER THE INPUT: true; the input reads as it did. -/
def rectPointsSpec : ChangeSpec := { name := "rectPoints", fn := fun _ => fun
  | [d1, d2, d3] => { results := [.lit (.bool true)], args := [d1, d2, d3] }
  | _ => none }
def rectPointsRow : OpenClaim := { program := "ytlhhckpjcglinaagreatdoor", sum := "22d05d663bf3a376de3d08891a5535e23f6b2fafb3ffdc2ed04d0f89fbb00cfb", func := "annulus/annuluslaw9.RectPoints", spec := "rectPoints", named := ["math/bits.deBruijn32tab"], apart := false, laid := [("math/bits.deBruijn32tab", laid_math_bits_deBruijn32tab)] }
def RectPointsSaid : Prop := rectPointsRow.holds Tryz.pinned (OpenSpec.ofChange rectPointsSpec)

/-- ITS FALSE NEIGHBOUR: 'it returns false'. Refute it at one input. -/
def rectPointsWrong : ChangeSpec := { name := "rectPoints", fn := fun _ => fun
  | [d1, d2, d3] => { results := [.lit (.bool false)], args := [d1, d2, d3] }
  | _ => none }
def RectPointsWrongFalsely : Prop := rectPointsRow.holds Tryz.pinned (OpenSpec.ofChange rectPointsWrong)

/-- 'annuluslaw9.RectLess': WHATEVER THE INPUT: true; the input reads as it did. -/
def rectLessSpec : ChangeSpec := { name := "rectLess", fn := fun _ => fun
  | [d1, d2, d3, d4] => { results := [.lit (.bool true)], args := [d1, d2, d3, d4] }
  | _ => none }
def rectLessRow : OpenClaim := { program := "ytlhhckpjcglinaagreatdoor", sum := "22d05d663bf3a376de3d08891a5535e23f6b2fafb3ffdc2ed04d0f89fbb00cfb", func := "annulus/annuluslaw9.RectLess", spec := "rectLess", named := ["math/bits.deBruijn32tab"], apart := false, laid := [("math/bits.deBruijn32tab", laid_math_bits_deBruijn32tab)] }
def RectLessSaid : Prop := rectLessRow.holds Tryz.pinned (OpenSpec.ofChange rectLessSpec)

/-- ITS FALSE NEIGHBOUR: 'it returns false'. Refute it at one input. -/
def rectLessWrong : ChangeSpec := { name := "rectLess", fn := fun _ => fun
  | [d1, d2, d3, d4] => { results := [.lit (.bool false)], args := [d1, d2, d3, d4] }
  | _ => none }
def RectLessWrongFalsely : Prop := rectLessRow.holds Tryz.pinned (OpenSpec.ofChange rectLessWrong)

/-- 'annuluslaw9.RectTells': WHATEVER THE INPUT: true; the input reads as it did. -/
def rectTellsSpec : ChangeSpec := { name := "rectTells", fn := fun _ => fun
  | [d1, d2, d3, d4] => { results := [.lit (.bool true)], args := [d1, d2, d3, d4] }
  | _ => none }
def rectTellsRow : OpenClaim := { program := "ytlhhckpjcglinaagreatdoor", sum := "22d05d663bf3a376de3d08891a5535e23f6b2fafb3ffdc2ed04d0f89fbb00cfb", func := "annulus/annuluslaw9.RectTells", spec := "rectTells", named := ["math/bits.deBruijn32tab"], apart := false, laid := [("math/bits.deBruijn32tab", laid_math_bits_deBruijn32tab)] }
def RectTellsSaid : Prop := rectTellsRow.holds Tryz.pinned (OpenSpec.ofChange rectTellsSpec)

/-- ITS FALSE NEIGHBOUR: 'it returns false'. Refute it at one input. -/
def rectTellsWrong : ChangeSpec := { name := "rectTells", fn := fun _ => fun
  | [d1, d2, d3, d4] => { results := [.lit (.bool false)], args := [d1, d2, d3, d4] }
  | _ => none }
def RectTellsWrongFalsely : Prop := rectTellsRow.holds Tryz.pinned (OpenSpec.ofChange rectTellsWrong)

/-- 'annuluslaw9.RectHolds': WHATEVER THE INPUT: true; the input reads as it did. -/
def rectHoldsSpec : ChangeSpec := { name := "rectHolds", fn := fun _ => fun
  | [d1, d2, d3, d4, d5, d6] => { results := [.lit (.bool true)], args := [d1, d2, d3, d4, d5, d6] }
  | _ => none }
def rectHoldsRow : OpenClaim := { program := "ytlhhckpjcglinaagreatdoor", sum := "22d05d663bf3a376de3d08891a5535e23f6b2fafb3ffdc2ed04d0f89fbb00cfb", func := "annulus/annuluslaw9.RectHolds", spec := "rectHolds", named := ["math/bits.deBruijn32tab"], apart := false, laid := [("math/bits.deBruijn32tab", laid_math_bits_deBruijn32tab)] }
def RectHoldsSaid : Prop := rectHoldsRow.holds Tryz.pinned (OpenSpec.ofChange rectHoldsSpec)

/-- ITS FALSE NEIGHBOUR: 'it returns false'. Refute it at one input. -/
def rectHoldsWrong : ChangeSpec := { name := "rectHolds", fn := fun _ => fun
  | [d1, d2, d3, d4, d5, d6] => { results := [.lit (.bool false)], args := [d1, d2, d3, d4, d5, d6] }
  | _ => none }
def RectHoldsWrongFalsely : Prop := rectHoldsRow.holds Tryz.pinned (OpenSpec.ofChange rectHoldsWrong)

/- THE SECOND FORM. 'bulk': how many values and letters a reading holds, each counted each time it is reached (what is shared counts as often as it is met; a slice's spare places count too). A statement '..UptoSaid' is the law's where the arguments, and the package variables that the reading takes, are together of bulk at most 1048576: NARROWER than '..Said'. Prove '..Said' where nothing that the law and all that it calls make is longer than what came in: it says more and counts as full. Else prove '..UptoSaid'. A law counts once. -/
mutual
def uptoBulk {H : Type} : DataW H → Nat
  | .lit (.string bytes) => bytes.length + 1
  | .lit _ => 1
  | .nil => 1
  | .ptr d => uptoBulk d + 1
  | .slice elems spare => uptoBulkAll elems + uptoBulkAll spare + 1
  | .agg parts => uptoBulkAll parts + 1
  | .iface _ d => uptoBulk d + 1
  | .map entries => uptoBulkEntries entries + 1
  | .held _ => 1
def uptoBulkAll {H : Type} : List (DataW H) → Nat
  | [] => 0
  | d :: r => uptoBulk d + uptoBulkAll r
def uptoBulkEntries {H : Type} : List (Lit × DataW H) → Nat
  | [] => 0
  | x :: r => uptoBulkEntry x + uptoBulkEntries r
def uptoBulkEntry {H : Type} : Lit × DataW H → Nat
  | (.string bytes, d) => bytes.length + uptoBulk d + 1
  | (_, d) => uptoBulk d + 1
 end
def uptoSmall : (H : Type) → List (DataW H) → Bool := fun _ ds => decide (uptoBulkAll ds ≤ 1048576)
def OpenSpec.upto (s : _root_.Go.ChangeSpec) : _root_.Go.OpenSpec := { _root_.Go.OpenSpec.ofChange s with cond := some uptoSmall }

/-- 'annuluslaw16.BoxTells', WHERE WHAT IT READS IS OF BULK AT MOST 1048576: true; the input reads as it did. -/
def boxTellsUptoRow : OpenClaim := { program := "ytlhhckpjcglinaagreatdoor", sum := "22d05d663bf3a376de3d08891a5535e23f6b2fafb3ffdc2ed04d0f89fbb00cfb", func := "annulus/annuluslaw16.BoxTells", spec := "boxTells", named := ["math/bits.deBruijn32tab"], apart := false, laid := [("math/bits.deBruijn32tab", laid_math_bits_deBruijn32tab)], narrowed := true }
def BoxTellsUptoSaid : Prop := boxTellsUptoRow.holds Tryz.pinned (OpenSpec.upto boxTellsSpec)

/-- 'annuluslaw16.BoxWhole', WHERE WHAT IT READS IS OF BULK AT MOST 1048576: true; the input reads as it did. -/
def boxWholeUptoRow : OpenClaim := { program := "ytlhhckpjcglinaagreatdoor", sum := "22d05d663bf3a376de3d08891a5535e23f6b2fafb3ffdc2ed04d0f89fbb00cfb", func := "annulus/annuluslaw16.BoxWhole", spec := "boxWhole", named := ["math/bits.deBruijn32tab"], apart := false, laid := [("math/bits.deBruijn32tab", laid_math_bits_deBruijn32tab)], narrowed := true }
def BoxWholeUptoSaid : Prop := boxWholeUptoRow.holds Tryz.pinned (OpenSpec.upto boxWholeSpec)

/-- 'annuluslaw7.RealTells', WHERE WHAT IT READS IS OF BULK AT MOST 1048576: true; the input reads as it did. -/
def realTellsUptoRow : OpenClaim := { program := "ytlhhckpjcglinaagreatdoor", sum := "22d05d663bf3a376de3d08891a5535e23f6b2fafb3ffdc2ed04d0f89fbb00cfb", func := "annulus/annuluslaw7.RealTells", spec := "realTells", named := ["math/bits.deBruijn32tab"], apart := false, laid := [("math/bits.deBruijn32tab", laid_math_bits_deBruijn32tab)], narrowed := true }
def RealTellsUptoSaid : Prop := realTellsUptoRow.holds Tryz.pinned (OpenSpec.upto realTellsSpec)

/-- 'annuluslaw7.RealRounds', WHERE WHAT IT READS IS OF BULK AT MOST 1048576: true; the input reads as it did. -/
def realRoundsUptoRow : OpenClaim := { program := "ytlhhckpjcglinaagreatdoor", sum := "22d05d663bf3a376de3d08891a5535e23f6b2fafb3ffdc2ed04d0f89fbb00cfb", func := "annulus/annuluslaw7.RealRounds", spec := "realRounds", named := ["math/bits.deBruijn32tab"], apart := false, laid := [("math/bits.deBruijn32tab", laid_math_bits_deBruijn32tab)], narrowed := true }
def RealRoundsUptoSaid : Prop := realRoundsUptoRow.holds Tryz.pinned (OpenSpec.upto realRoundsSpec)

/-- 'annuluslaw7.RealHolds', WHERE WHAT IT READS IS OF BULK AT MOST 1048576: true; the input reads as it did. -/
def realHoldsUptoRow : OpenClaim := { program := "ytlhhckpjcglinaagreatdoor", sum := "22d05d663bf3a376de3d08891a5535e23f6b2fafb3ffdc2ed04d0f89fbb00cfb", func := "annulus/annuluslaw7.RealHolds", spec := "realHolds", named := ["math/bits.deBruijn32tab"], apart := false, laid := [("math/bits.deBruijn32tab", laid_math_bits_deBruijn32tab)], narrowed := true }
def RealHoldsUptoSaid : Prop := realHoldsUptoRow.holds Tryz.pinned (OpenSpec.upto realHoldsSpec)

/-- 'annuluslaw9.RectRounds', WHERE WHAT IT READS IS OF BULK AT MOST 1048576: true; the input reads as it did. -/
def rectRoundsUptoRow : OpenClaim := { program := "ytlhhckpjcglinaagreatdoor", sum := "22d05d663bf3a376de3d08891a5535e23f6b2fafb3ffdc2ed04d0f89fbb00cfb", func := "annulus/annuluslaw9.RectRounds", spec := "rectRounds", named := ["math/bits.deBruijn32tab"], apart := false, laid := [("math/bits.deBruijn32tab", laid_math_bits_deBruijn32tab)], narrowed := true }
def RectRoundsUptoSaid : Prop := rectRoundsUptoRow.holds Tryz.pinned (OpenSpec.upto rectRoundsSpec)

/-- 'annuluslaw9.RectPoints', WHERE WHAT IT READS IS OF BULK AT MOST 1048576: true; the input reads as it did. -/
def rectPointsUptoRow : OpenClaim := { program := "ytlhhckpjcglinaagreatdoor", sum := "22d05d663bf3a376de3d08891a5535e23f6b2fafb3ffdc2ed04d0f89fbb00cfb", func := "annulus/annuluslaw9.RectPoints", spec := "rectPoints", named := ["math/bits.deBruijn32tab"], apart := false, laid := [("math/bits.deBruijn32tab", laid_math_bits_deBruijn32tab)], narrowed := true }
def RectPointsUptoSaid : Prop := rectPointsUptoRow.holds Tryz.pinned (OpenSpec.upto rectPointsSpec)

/-- 'annuluslaw9.RectLess', WHERE WHAT IT READS IS OF BULK AT MOST 1048576: true; the input reads as it did. -/
def rectLessUptoRow : OpenClaim := { program := "ytlhhckpjcglinaagreatdoor", sum := "22d05d663bf3a376de3d08891a5535e23f6b2fafb3ffdc2ed04d0f89fbb00cfb", func := "annulus/annuluslaw9.RectLess", spec := "rectLess", named := ["math/bits.deBruijn32tab"], apart := false, laid := [("math/bits.deBruijn32tab", laid_math_bits_deBruijn32tab)], narrowed := true }
def RectLessUptoSaid : Prop := rectLessUptoRow.holds Tryz.pinned (OpenSpec.upto rectLessSpec)

/-- 'annuluslaw9.RectTells', WHERE WHAT IT READS IS OF BULK AT MOST 1048576: true; the input reads as it did. -/
def rectTellsUptoRow : OpenClaim := { program := "ytlhhckpjcglinaagreatdoor", sum := "22d05d663bf3a376de3d08891a5535e23f6b2fafb3ffdc2ed04d0f89fbb00cfb", func := "annulus/annuluslaw9.RectTells", spec := "rectTells", named := ["math/bits.deBruijn32tab"], apart := false, laid := [("math/bits.deBruijn32tab", laid_math_bits_deBruijn32tab)], narrowed := true }
def RectTellsUptoSaid : Prop := rectTellsUptoRow.holds Tryz.pinned (OpenSpec.upto rectTellsSpec)

/-- 'annuluslaw9.RectHolds', WHERE WHAT IT READS IS OF BULK AT MOST 1048576: true; the input reads as it did. -/
def rectHoldsUptoRow : OpenClaim := { program := "ytlhhckpjcglinaagreatdoor", sum := "22d05d663bf3a376de3d08891a5535e23f6b2fafb3ffdc2ed04d0f89fbb00cfb", func := "annulus/annuluslaw9.RectHolds", spec := "rectHolds", named := ["math/bits.deBruijn32tab"], apart := false, laid := [("math/bits.deBruijn32tab", laid_math_bits_deBruijn32tab)], narrowed := true }
def RectHoldsUptoSaid : Prop := rectHoldsUptoRow.holds Tryz.pinned (OpenSpec.upto rectHoldsSpec)

end Rows
end Go.Proofs.YtlhhckpjcglinaaGreatDoor
