/-
  NARROWER THAN 'FOR EVERY INPUT', by the rows' own cells (each row's printed sentence says how): WindTells: laid · WindBack: laid · WindRings: laid · WindTriangles: laid · WindQuarters: laid · DyadPowers: laid · DyadForms: laid · DyadLaws: laid · DyadTells: laid · DyadTops: laid · RoundTells: laid · RoundSides: laid · RoundGrid: laid · RoundHalves: laid · RoundTwice: laid · BoxDeep: laid · RealSigns: laid · RealLess: laid · RealEnds: laid.
  DERIVED. THE GIVEN ROWS OF THIS SEAT. 19 by the template 'for every input the law returns true; each argument reads behind the call as it read before'; 0 by the template 'total and deterministic' (their statements: YtmgbegcamhkblaaDoorTotals.lean).
  GIVEN WITH THE SEED: the statements are not yours to turn. If you find one false, say at which input.
  Laid BY PROGRAM, IN A SANDBOX (cutbox-rows.mjs): the forced cells as the released guide's own fill.sh prints them over the translation 75af16194887d610… (all of the seat's roots in one cut). By AI agents, Wed Nov 11 2026. No macro, syntax, notation, axiom, sorry.
-/
import Derived.Test.YtmgbegcamhkblaaDoorChecked
import GoSem.Claim
import GoSem.ClaimJoined
import GoSem.ClaimMapViews
import Derived.JoinedTies
import Derived.KernelRfl
namespace Go.Proofs.YtmgbegcamhkblaaDoor
/- THE CELL 'sum', in the pinned program and in every row, IS THE sha256 OF THE DUMP (.gsa) THAT YtmgbegcamhkblaaDoorProg.lean LOADS. Nothing in Lean hashes anything: it is a label: what it is worth is what the hold of that sum in a sandbox is worth. -/
noncomputable def Tryd.pinned : Pinned := { name := "ytmgbegcamhkblaadoor", sum := "75af16194887d61025259cb9ba120b7b47a0d61674cf57e9a3f3f4b7df54cccd", checked := Tryd.checked }
namespace Rows
def none {H : Type} : Left H := { results := [], args := [] }

/- WHAT THE LISTED PACKAGE-LEVEL VARIABLES READ AS WHEN THE CALL BEGINS. Each datum BY PROGRAM (the guide's laid-datum.mjs) off the statement by which the dump's own 'gosem.cut.vars' lays the variable. In a bare row this is a premise. The card (YtmgbegcamhkblaaDoorCards.lean) ties it to the program's text. -/
def laid_math_bits_deBruijn32tab {H : Type} : DataW H := .agg [.lit (.int .u8 0), .lit (.int .u8 1), .lit (.int .u8 28), .lit (.int .u8 2), .lit (.int .u8 29), .lit (.int .u8 14), .lit (.int .u8 24), .lit (.int .u8 3), .lit (.int .u8 30), .lit (.int .u8 22), .lit (.int .u8 20), .lit (.int .u8 15), .lit (.int .u8 25), .lit (.int .u8 17), .lit (.int .u8 4), .lit (.int .u8 8), .lit (.int .u8 31), .lit (.int .u8 27), .lit (.int .u8 13), .lit (.int .u8 23), .lit (.int .u8 21), .lit (.int .u8 19), .lit (.int .u8 16), .lit (.int .u8 7), .lit (.int .u8 26), .lit (.int .u8 12), .lit (.int .u8 18), .lit (.int .u8 6), .lit (.int .u8 11), .lit (.int .u8 5), .lit (.int .u8 10), .lit (.int .u8 9)]

/-- 'annuluslaw21.WindTells': WHATEVER THE INPUT: true; the input reads as it did. -/
def windTellsSpec : ChangeSpec := { name := "windTells", fn := fun _ => fun
  | [d1, d2, d3] => { results := [.lit (.bool true)], args := [d1, d2, d3] }
  | _ => none }
def windTellsRow : OpenClaim := { program := "ytmgbegcamhkblaadoor", sum := "75af16194887d61025259cb9ba120b7b47a0d61674cf57e9a3f3f4b7df54cccd", func := "annulus/annuluslaw21.WindTells", spec := "windTells", named := ["math/bits.deBruijn32tab"], apart := false, laid := [("math/bits.deBruijn32tab", laid_math_bits_deBruijn32tab)] }
def WindTellsSaid : Prop := windTellsRow.holds Tryd.pinned (OpenSpec.ofChange windTellsSpec)

/-- ITS FALSE NEIGHBOUR: 'it returns false'. Refute it at one input. -/
def windTellsWrong : ChangeSpec := { name := "windTells", fn := fun _ => fun
  | [d1, d2, d3] => { results := [.lit (.bool false)], args := [d1, d2, d3] }
  | _ => none }
def WindTellsWrongFalsely : Prop := windTellsRow.holds Tryd.pinned (OpenSpec.ofChange windTellsWrong)

/-- 'annuluslaw21.WindBack': WHATEVER THE INPUT: true; the input reads as it did. -/
def windBackSpec : ChangeSpec := { name := "windBack", fn := fun _ => fun
  | [d1, d2, d3] => { results := [.lit (.bool true)], args := [d1, d2, d3] }
  | _ => none }
def windBackRow : OpenClaim := { program := "ytmgbegcamhkblaadoor", sum := "75af16194887d61025259cb9ba120b7b47a0d61674cf57e9a3f3f4b7df54cccd", func := "annulus/annuluslaw21.WindBack", spec := "windBack", named := ["math/bits.deBruijn32tab"], apart := false, laid := [("math/bits.deBruijn32tab", laid_math_bits_deBruijn32tab)] }
def WindBackSaid : Prop := windBackRow.holds Tryd.pinned (OpenSpec.ofChange windBackSpec)

/-- ITS FALSE NEIGHBOUR: 'it returns false'. Refute it at one input. -/
def windBackWrong : ChangeSpec := { name := "windBack", fn := fun _ => fun
  | [d1, d2, d3] => { results := [.lit (.bool false)], args := [d1, d2, d3] }
  | _ => none }
def WindBackWrongFalsely : Prop := windBackRow.holds Tryd.pinned (OpenSpec.ofChange windBackWrong)

/-- 'annuluslaw21.WindRings': WHATEVER THE INPUT: true; the input reads as it did. -/
def windRingsSpec : ChangeSpec := { name := "windRings", fn := fun _ => fun
  | [d1, d2, d3, d4] => { results := [.lit (.bool true)], args := [d1, d2, d3, d4] }
  | _ => none }
def windRingsRow : OpenClaim := { program := "ytmgbegcamhkblaadoor", sum := "75af16194887d61025259cb9ba120b7b47a0d61674cf57e9a3f3f4b7df54cccd", func := "annulus/annuluslaw21.WindRings", spec := "windRings", named := ["math/bits.deBruijn32tab"], apart := false, laid := [("math/bits.deBruijn32tab", laid_math_bits_deBruijn32tab)] }
def WindRingsSaid : Prop := windRingsRow.holds Tryd.pinned (OpenSpec.ofChange windRingsSpec)

/-- ITS FALSE NEIGHBOUR: 'it returns false'. Refute it at one input. -/
def windRingsWrong : ChangeSpec := { name := "windRings", fn := fun _ => fun
  | [d1, d2, d3, d4] => { results := [.lit (.bool false)], args := [d1, d2, d3, d4] }
  | _ => none }
def WindRingsWrongFalsely : Prop := windRingsRow.holds Tryd.pinned (OpenSpec.ofChange windRingsWrong)

/-- 'annuluslaw21.WindTriangles': WHATEVER THE INPUT: true; the input reads as it did. -/
def windTrianglesSpec : ChangeSpec := { name := "windTriangles", fn := fun _ => fun
  | [d1, d2, d3] => { results := [.lit (.bool true)], args := [d1, d2, d3] }
  | _ => none }
def windTrianglesRow : OpenClaim := { program := "ytmgbegcamhkblaadoor", sum := "75af16194887d61025259cb9ba120b7b47a0d61674cf57e9a3f3f4b7df54cccd", func := "annulus/annuluslaw21.WindTriangles", spec := "windTriangles", named := ["math/bits.deBruijn32tab"], apart := false, laid := [("math/bits.deBruijn32tab", laid_math_bits_deBruijn32tab)] }
def WindTrianglesSaid : Prop := windTrianglesRow.holds Tryd.pinned (OpenSpec.ofChange windTrianglesSpec)

/-- ITS FALSE NEIGHBOUR: 'it returns false'. Refute it at one input. -/
def windTrianglesWrong : ChangeSpec := { name := "windTriangles", fn := fun _ => fun
  | [d1, d2, d3] => { results := [.lit (.bool false)], args := [d1, d2, d3] }
  | _ => none }
def WindTrianglesWrongFalsely : Prop := windTrianglesRow.holds Tryd.pinned (OpenSpec.ofChange windTrianglesWrong)

/-- 'annuluslaw21.WindQuarters': WHATEVER THE INPUT: true; the input reads as it did. -/
def windQuartersSpec : ChangeSpec := { name := "windQuarters", fn := fun _ => fun
  | [d] => { results := [.lit (.bool true)], args := [d] }
  | _ => none }
def windQuartersRow : OpenClaim := { program := "ytmgbegcamhkblaadoor", sum := "75af16194887d61025259cb9ba120b7b47a0d61674cf57e9a3f3f4b7df54cccd", func := "annulus/annuluslaw21.WindQuarters", spec := "windQuarters", named := ["math/bits.deBruijn32tab"], apart := false, laid := [("math/bits.deBruijn32tab", laid_math_bits_deBruijn32tab)] }
def WindQuartersSaid : Prop := windQuartersRow.holds Tryd.pinned (OpenSpec.ofChange windQuartersSpec)

/-- ITS FALSE NEIGHBOUR: 'it returns false'. Refute it at one input. -/
def windQuartersWrong : ChangeSpec := { name := "windQuarters", fn := fun _ => fun
  | [d] => { results := [.lit (.bool false)], args := [d] }
  | _ => none }
def WindQuartersWrongFalsely : Prop := windQuartersRow.holds Tryd.pinned (OpenSpec.ofChange windQuartersWrong)

/-- 'annuluslaw4.DyadPowers': WHATEVER THE INPUT: true; the input reads as it did. -/
def dyadPowersSpec : ChangeSpec := { name := "dyadPowers", fn := fun _ => fun
  | [d1, d2, d3] => { results := [.lit (.bool true)], args := [d1, d2, d3] }
  | _ => none }
def dyadPowersRow : OpenClaim := { program := "ytmgbegcamhkblaadoor", sum := "75af16194887d61025259cb9ba120b7b47a0d61674cf57e9a3f3f4b7df54cccd", func := "annulus/annuluslaw4.DyadPowers", spec := "dyadPowers", named := ["math/bits.deBruijn32tab"], apart := false, laid := [("math/bits.deBruijn32tab", laid_math_bits_deBruijn32tab)] }
def DyadPowersSaid : Prop := dyadPowersRow.holds Tryd.pinned (OpenSpec.ofChange dyadPowersSpec)

/-- ITS FALSE NEIGHBOUR: 'it returns false'. Refute it at one input. -/
def dyadPowersWrong : ChangeSpec := { name := "dyadPowers", fn := fun _ => fun
  | [d1, d2, d3] => { results := [.lit (.bool false)], args := [d1, d2, d3] }
  | _ => none }
def DyadPowersWrongFalsely : Prop := dyadPowersRow.holds Tryd.pinned (OpenSpec.ofChange dyadPowersWrong)

/-- 'annuluslaw4.DyadForms': WHATEVER THE INPUT: true; the input reads as it did. -/
def dyadFormsSpec : ChangeSpec := { name := "dyadForms", fn := fun _ => fun
  | [d1, d2, d3] => { results := [.lit (.bool true)], args := [d1, d2, d3] }
  | _ => none }
def dyadFormsRow : OpenClaim := { program := "ytmgbegcamhkblaadoor", sum := "75af16194887d61025259cb9ba120b7b47a0d61674cf57e9a3f3f4b7df54cccd", func := "annulus/annuluslaw4.DyadForms", spec := "dyadForms", named := ["math/bits.deBruijn32tab"], apart := false, laid := [("math/bits.deBruijn32tab", laid_math_bits_deBruijn32tab)] }
def DyadFormsSaid : Prop := dyadFormsRow.holds Tryd.pinned (OpenSpec.ofChange dyadFormsSpec)

/-- ITS FALSE NEIGHBOUR: 'it returns false'. Refute it at one input. -/
def dyadFormsWrong : ChangeSpec := { name := "dyadForms", fn := fun _ => fun
  | [d1, d2, d3] => { results := [.lit (.bool false)], args := [d1, d2, d3] }
  | _ => none }
def DyadFormsWrongFalsely : Prop := dyadFormsRow.holds Tryd.pinned (OpenSpec.ofChange dyadFormsWrong)

/-- 'annuluslaw4.DyadLaws': WHATEVER THE INPUT: true; the input reads as it did. -/
def dyadLawsSpec : ChangeSpec := { name := "dyadLaws", fn := fun _ => fun
  | [d1, d2, d3, d4] => { results := [.lit (.bool true)], args := [d1, d2, d3, d4] }
  | _ => none }
def dyadLawsRow : OpenClaim := { program := "ytmgbegcamhkblaadoor", sum := "75af16194887d61025259cb9ba120b7b47a0d61674cf57e9a3f3f4b7df54cccd", func := "annulus/annuluslaw4.DyadLaws", spec := "dyadLaws", named := ["math/bits.deBruijn32tab"], apart := false, laid := [("math/bits.deBruijn32tab", laid_math_bits_deBruijn32tab)] }
def DyadLawsSaid : Prop := dyadLawsRow.holds Tryd.pinned (OpenSpec.ofChange dyadLawsSpec)

/-- ITS FALSE NEIGHBOUR: 'it returns false'. Refute it at one input. -/
def dyadLawsWrong : ChangeSpec := { name := "dyadLaws", fn := fun _ => fun
  | [d1, d2, d3, d4] => { results := [.lit (.bool false)], args := [d1, d2, d3, d4] }
  | _ => none }
def DyadLawsWrongFalsely : Prop := dyadLawsRow.holds Tryd.pinned (OpenSpec.ofChange dyadLawsWrong)

/-- 'annuluslaw4.DyadTells': WHATEVER THE INPUT: true; the input reads as it did. -/
def dyadTellsSpec : ChangeSpec := { name := "dyadTells", fn := fun _ => fun
  | [d1, d2, d3, d4] => { results := [.lit (.bool true)], args := [d1, d2, d3, d4] }
  | _ => none }
def dyadTellsRow : OpenClaim := { program := "ytmgbegcamhkblaadoor", sum := "75af16194887d61025259cb9ba120b7b47a0d61674cf57e9a3f3f4b7df54cccd", func := "annulus/annuluslaw4.DyadTells", spec := "dyadTells", named := ["math/bits.deBruijn32tab"], apart := false, laid := [("math/bits.deBruijn32tab", laid_math_bits_deBruijn32tab)] }
def DyadTellsSaid : Prop := dyadTellsRow.holds Tryd.pinned (OpenSpec.ofChange dyadTellsSpec)

/-- ITS FALSE NEIGHBOUR: 'it returns false'. Refute it at one input. -/
def dyadTellsWrong : ChangeSpec := { name := "dyadTells", fn := fun _ => fun
  | [d1, d2, d3, d4] => { results := [.lit (.bool false)], args := [d1, d2, d3, d4] }
  | _ => none }
def DyadTellsWrongFalsely : Prop := dyadTellsRow.holds Tryd.pinned (OpenSpec.ofChange dyadTellsWrong)

/-- 'annuluslaw4.DyadTops': WHATEVER THE INPUT: true; the input reads as it did. -/
def dyadTopsSpec : ChangeSpec := { name := "dyadTops", fn := fun _ => fun
  | [d1, d2] => { results := [.lit (.bool true)], args := [d1, d2] }
  | _ => none }
def dyadTopsRow : OpenClaim := { program := "ytmgbegcamhkblaadoor", sum := "75af16194887d61025259cb9ba120b7b47a0d61674cf57e9a3f3f4b7df54cccd", func := "annulus/annuluslaw4.DyadTops", spec := "dyadTops", named := ["math/bits.deBruijn32tab"], apart := false, laid := [("math/bits.deBruijn32tab", laid_math_bits_deBruijn32tab)] }
def DyadTopsSaid : Prop := dyadTopsRow.holds Tryd.pinned (OpenSpec.ofChange dyadTopsSpec)

/-- ITS FALSE NEIGHBOUR: 'it returns false'. Refute it at one input. -/
def dyadTopsWrong : ChangeSpec := { name := "dyadTops", fn := fun _ => fun
  | [d1, d2] => { results := [.lit (.bool false)], args := [d1, d2] }
  | _ => none }
def DyadTopsWrongFalsely : Prop := dyadTopsRow.holds Tryd.pinned (OpenSpec.ofChange dyadTopsWrong)

/-- 'annuluslaw5.RoundTells': WHATEVER THE INPUT: true; the input reads as it did. -/
def roundTellsSpec : ChangeSpec := { name := "roundTells", fn := fun _ => fun
  | [d1, d2, d3, d4] => { results := [.lit (.bool true)], args := [d1, d2, d3, d4] }
  | _ => none }
def roundTellsRow : OpenClaim := { program := "ytmgbegcamhkblaadoor", sum := "75af16194887d61025259cb9ba120b7b47a0d61674cf57e9a3f3f4b7df54cccd", func := "annulus/annuluslaw5.RoundTells", spec := "roundTells", named := ["math/bits.deBruijn32tab"], apart := false, laid := [("math/bits.deBruijn32tab", laid_math_bits_deBruijn32tab)] }
def RoundTellsSaid : Prop := roundTellsRow.holds Tryd.pinned (OpenSpec.ofChange roundTellsSpec)

/-- ITS FALSE NEIGHBOUR: 'it returns false'. Refute it at one input. -/
def roundTellsWrong : ChangeSpec := { name := "roundTells", fn := fun _ => fun
  | [d1, d2, d3, d4] => { results := [.lit (.bool false)], args := [d1, d2, d3, d4] }
  | _ => none }
def RoundTellsWrongFalsely : Prop := roundTellsRow.holds Tryd.pinned (OpenSpec.ofChange roundTellsWrong)

/-- 'annuluslaw5.RoundSides': WHATEVER THE INPUT: true; the input reads as it did. -/
def roundSidesSpec : ChangeSpec := { name := "roundSides", fn := fun _ => fun
  | [d1, d2] => { results := [.lit (.bool true)], args := [d1, d2] }
  | _ => none }
def roundSidesRow : OpenClaim := { program := "ytmgbegcamhkblaadoor", sum := "75af16194887d61025259cb9ba120b7b47a0d61674cf57e9a3f3f4b7df54cccd", func := "annulus/annuluslaw5.RoundSides", spec := "roundSides", named := ["math/bits.deBruijn32tab"], apart := false, laid := [("math/bits.deBruijn32tab", laid_math_bits_deBruijn32tab)] }
def RoundSidesSaid : Prop := roundSidesRow.holds Tryd.pinned (OpenSpec.ofChange roundSidesSpec)

/-- ITS FALSE NEIGHBOUR: 'it returns false'. Refute it at one input. -/
def roundSidesWrong : ChangeSpec := { name := "roundSides", fn := fun _ => fun
  | [d1, d2] => { results := [.lit (.bool false)], args := [d1, d2] }
  | _ => none }
def RoundSidesWrongFalsely : Prop := roundSidesRow.holds Tryd.pinned (OpenSpec.ofChange roundSidesWrong)

/-- 'annuluslaw5.RoundGrid': WHATEVER THE INPUT: true; the input reads as it did. -/
def roundGridSpec : ChangeSpec := { name := "roundGrid", fn := fun _ => fun
  | [d1, d2, d3] => { results := [.lit (.bool true)], args := [d1, d2, d3] }
  | _ => none }
def roundGridRow : OpenClaim := { program := "ytmgbegcamhkblaadoor", sum := "75af16194887d61025259cb9ba120b7b47a0d61674cf57e9a3f3f4b7df54cccd", func := "annulus/annuluslaw5.RoundGrid", spec := "roundGrid", named := ["math/bits.deBruijn32tab"], apart := false, laid := [("math/bits.deBruijn32tab", laid_math_bits_deBruijn32tab)] }
def RoundGridSaid : Prop := roundGridRow.holds Tryd.pinned (OpenSpec.ofChange roundGridSpec)

/-- ITS FALSE NEIGHBOUR: 'it returns false'. Refute it at one input. -/
def roundGridWrong : ChangeSpec := { name := "roundGrid", fn := fun _ => fun
  | [d1, d2, d3] => { results := [.lit (.bool false)], args := [d1, d2, d3] }
  | _ => none }
def RoundGridWrongFalsely : Prop := roundGridRow.holds Tryd.pinned (OpenSpec.ofChange roundGridWrong)

/-- 'annuluslaw5.RoundHalves': WHATEVER THE INPUT: true; the input reads as it did. -/
def roundHalvesSpec : ChangeSpec := { name := "roundHalves", fn := fun _ => fun
  | [d1, d2] => { results := [.lit (.bool true)], args := [d1, d2] }
  | _ => none }
def roundHalvesRow : OpenClaim := { program := "ytmgbegcamhkblaadoor", sum := "75af16194887d61025259cb9ba120b7b47a0d61674cf57e9a3f3f4b7df54cccd", func := "annulus/annuluslaw5.RoundHalves", spec := "roundHalves", named := ["math/bits.deBruijn32tab"], apart := false, laid := [("math/bits.deBruijn32tab", laid_math_bits_deBruijn32tab)] }
def RoundHalvesSaid : Prop := roundHalvesRow.holds Tryd.pinned (OpenSpec.ofChange roundHalvesSpec)

/-- ITS FALSE NEIGHBOUR: 'it returns false'. Refute it at one input. -/
def roundHalvesWrong : ChangeSpec := { name := "roundHalves", fn := fun _ => fun
  | [d1, d2] => { results := [.lit (.bool false)], args := [d1, d2] }
  | _ => none }
def RoundHalvesWrongFalsely : Prop := roundHalvesRow.holds Tryd.pinned (OpenSpec.ofChange roundHalvesWrong)

/-- 'annuluslaw5.RoundTwice': WHATEVER THE INPUT: true; the input reads as it did. -/
def roundTwiceSpec : ChangeSpec := { name := "roundTwice", fn := fun _ => fun
  | [d1, d2, d3] => { results := [.lit (.bool true)], args := [d1, d2, d3] }
  | _ => none }
def roundTwiceRow : OpenClaim := { program := "ytmgbegcamhkblaadoor", sum := "75af16194887d61025259cb9ba120b7b47a0d61674cf57e9a3f3f4b7df54cccd", func := "annulus/annuluslaw5.RoundTwice", spec := "roundTwice", named := ["math/bits.deBruijn32tab"], apart := false, laid := [("math/bits.deBruijn32tab", laid_math_bits_deBruijn32tab)] }
def RoundTwiceSaid : Prop := roundTwiceRow.holds Tryd.pinned (OpenSpec.ofChange roundTwiceSpec)

/-- ITS FALSE NEIGHBOUR: 'it returns false'. Refute it at one input. -/
def roundTwiceWrong : ChangeSpec := { name := "roundTwice", fn := fun _ => fun
  | [d1, d2, d3] => { results := [.lit (.bool false)], args := [d1, d2, d3] }
  | _ => none }
def RoundTwiceWrongFalsely : Prop := roundTwiceRow.holds Tryd.pinned (OpenSpec.ofChange roundTwiceWrong)

/-- 'annuluslaw16.BoxDeep': WHATEVER THE INPUT: true; the input reads as it did. -/
def boxDeepSpec : ChangeSpec := { name := "boxDeep", fn := fun _ => fun
  | [d1, d2, d3] => { results := [.lit (.bool true)], args := [d1, d2, d3] }
  | _ => none }
def boxDeepRow : OpenClaim := { program := "ytmgbegcamhkblaadoor", sum := "75af16194887d61025259cb9ba120b7b47a0d61674cf57e9a3f3f4b7df54cccd", func := "annulus/annuluslaw16.BoxDeep", spec := "boxDeep", named := ["math/bits.deBruijn32tab"], apart := false, laid := [("math/bits.deBruijn32tab", laid_math_bits_deBruijn32tab)] }
def BoxDeepSaid : Prop := boxDeepRow.holds Tryd.pinned (OpenSpec.ofChange boxDeepSpec)

/-- ITS FALSE NEIGHBOUR: 'it returns false'. Refute it at one input. -/
def boxDeepWrong : ChangeSpec := { name := "boxDeep", fn := fun _ => fun
  | [d1, d2, d3] => { results := [.lit (.bool false)], args := [d1, d2, d3] }
  | _ => none }
def BoxDeepWrongFalsely : Prop := boxDeepRow.holds Tryd.pinned (OpenSpec.ofChange boxDeepWrong)

/-- 'annuluslaw7.RealSigns': WHATEVER THE INPUT: true; the input reads as it did. -/
def realSignsSpec : ChangeSpec := { name := "realSigns", fn := fun _ => fun
  | [d1, d2, d3] => { results := [.lit (.bool true)], args := [d1, d2, d3] }
  | _ => none }
def realSignsRow : OpenClaim := { program := "ytmgbegcamhkblaadoor", sum := "75af16194887d61025259cb9ba120b7b47a0d61674cf57e9a3f3f4b7df54cccd", func := "annulus/annuluslaw7.RealSigns", spec := "realSigns", named := ["math/bits.deBruijn32tab"], apart := false, laid := [("math/bits.deBruijn32tab", laid_math_bits_deBruijn32tab)] }
def RealSignsSaid : Prop := realSignsRow.holds Tryd.pinned (OpenSpec.ofChange realSignsSpec)

/-- ITS FALSE NEIGHBOUR: 'it returns false'. Refute it at one input. -/
def realSignsWrong : ChangeSpec := { name := "realSigns", fn := fun _ => fun
  | [d1, d2, d3] => { results := [.lit (.bool false)], args := [d1, d2, d3] }
  | _ => none }
def RealSignsWrongFalsely : Prop := realSignsRow.holds Tryd.pinned (OpenSpec.ofChange realSignsWrong)

/-- 'annuluslaw7.RealLess': WHATEVER THE INPUT: true; the input reads as it did. -/
def realLessSpec : ChangeSpec := { name := "realLess", fn := fun _ => fun
  | [d1, d2, d3, d4] => { results := [.lit (.bool true)], args := [d1, d2, d3, d4] }
  | _ => none }
def realLessRow : OpenClaim := { program := "ytmgbegcamhkblaadoor", sum := "75af16194887d61025259cb9ba120b7b47a0d61674cf57e9a3f3f4b7df54cccd", func := "annulus/annuluslaw7.RealLess", spec := "realLess", named := ["math/bits.deBruijn32tab"], apart := false, laid := [("math/bits.deBruijn32tab", laid_math_bits_deBruijn32tab)] }
def RealLessSaid : Prop := realLessRow.holds Tryd.pinned (OpenSpec.ofChange realLessSpec)

/-- ITS FALSE NEIGHBOUR: 'it returns false'. Refute it at one input. -/
def realLessWrong : ChangeSpec := { name := "realLess", fn := fun _ => fun
  | [d1, d2, d3, d4] => { results := [.lit (.bool false)], args := [d1, d2, d3, d4] }
  | _ => none }
def RealLessWrongFalsely : Prop := realLessRow.holds Tryd.pinned (OpenSpec.ofChange realLessWrong)

/-- 'annuluslaw7.RealEnds': WHATEVER THE INPUT: true; the input reads as it did. -/
def realEndsSpec : ChangeSpec := { name := "realEnds", fn := fun _ => fun
  | [d1, d2, d3] => { results := [.lit (.bool true)], args := [d1, d2, d3] }
  | _ => none }
def realEndsRow : OpenClaim := { program := "ytmgbegcamhkblaadoor", sum := "75af16194887d61025259cb9ba120b7b47a0d61674cf57e9a3f3f4b7df54cccd", func := "annulus/annuluslaw7.RealEnds", spec := "realEnds", named := ["math/bits.deBruijn32tab"], apart := false, laid := [("math/bits.deBruijn32tab", laid_math_bits_deBruijn32tab)] }
def RealEndsSaid : Prop := realEndsRow.holds Tryd.pinned (OpenSpec.ofChange realEndsSpec)

/-- ITS FALSE NEIGHBOUR: 'it returns false'. Refute it at one input. -/
def realEndsWrong : ChangeSpec := { name := "realEnds", fn := fun _ => fun
  | [d1, d2, d3] => { results := [.lit (.bool false)], args := [d1, d2, d3] }
  | _ => none }
def RealEndsWrongFalsely : Prop := realEndsRow.holds Tryd.pinned (OpenSpec.ofChange realEndsWrong)

/- THE SECOND FORM. 'bulk': how many values and letters a reading holds, each counted each time it is reached (what is shared counts as often as it is met; a slice's spare places count too). A statement '..UptoSaid' is the law's where the arguments, and the package variables that the reading takes, are together of bulk at most 1048576: NARROWER than '..Said'. Prove '..Said' where nothing that the law and all that it calls make is longer than what came in: it says more and counts as full. Else prove '..UptoSaid'. A law counts once. -/
mutual
def uptoBulk {H : Type} : DataW H → Nat
  | .lit (.string bytes) => bytes.length + 1
  | .lit _ => 1
  | .nil => 1
  | .ptr d => uptoBulk d + 1
  | .slice elems spare => uptoBulkAll elems + uptoBulkAll spare + 1
  | .agg parts => uptoBulkAll parts + 1
  | .iface _ d => uptoBulk d + 1
  | .map entries => uptoBulkEntries entries + 1
  | .held _ => 1
def uptoBulkAll {H : Type} : List (DataW H) → Nat
  | [] => 0
  | d :: r => uptoBulk d + uptoBulkAll r
def uptoBulkEntries {H : Type} : List (Lit × DataW H) → Nat
  | [] => 0
  | x :: r => uptoBulkEntry x + uptoBulkEntries r
def uptoBulkEntry {H : Type} : Lit × DataW H → Nat
  | (.string bytes, d) => bytes.length + uptoBulk d + 1
  | (_, d) => uptoBulk d + 1
 end
def uptoSmall : (H : Type) → List (DataW H) → Bool := fun _ ds => decide (uptoBulkAll ds ≤ 1048576)
def OpenSpec.upto (s : _root_.Go.ChangeSpec) : _root_.Go.OpenSpec := { _root_.Go.OpenSpec.ofChange s with cond := some uptoSmall }

/-- 'annuluslaw21.WindTells', WHERE WHAT IT READS IS OF BULK AT MOST 1048576: true; the input reads as it did. -/
def windTellsUptoRow : OpenClaim := { program := "ytmgbegcamhkblaadoor", sum := "75af16194887d61025259cb9ba120b7b47a0d61674cf57e9a3f3f4b7df54cccd", func := "annulus/annuluslaw21.WindTells", spec := "windTells", named := ["math/bits.deBruijn32tab"], apart := false, laid := [("math/bits.deBruijn32tab", laid_math_bits_deBruijn32tab)], narrowed := true }
def WindTellsUptoSaid : Prop := windTellsUptoRow.holds Tryd.pinned (OpenSpec.upto windTellsSpec)

/-- 'annuluslaw21.WindBack', WHERE WHAT IT READS IS OF BULK AT MOST 1048576: true; the input reads as it did. -/
def windBackUptoRow : OpenClaim := { program := "ytmgbegcamhkblaadoor", sum := "75af16194887d61025259cb9ba120b7b47a0d61674cf57e9a3f3f4b7df54cccd", func := "annulus/annuluslaw21.WindBack", spec := "windBack", named := ["math/bits.deBruijn32tab"], apart := false, laid := [("math/bits.deBruijn32tab", laid_math_bits_deBruijn32tab)], narrowed := true }
def WindBackUptoSaid : Prop := windBackUptoRow.holds Tryd.pinned (OpenSpec.upto windBackSpec)

/-- 'annuluslaw21.WindRings', WHERE WHAT IT READS IS OF BULK AT MOST 1048576: true; the input reads as it did. -/
def windRingsUptoRow : OpenClaim := { program := "ytmgbegcamhkblaadoor", sum := "75af16194887d61025259cb9ba120b7b47a0d61674cf57e9a3f3f4b7df54cccd", func := "annulus/annuluslaw21.WindRings", spec := "windRings", named := ["math/bits.deBruijn32tab"], apart := false, laid := [("math/bits.deBruijn32tab", laid_math_bits_deBruijn32tab)], narrowed := true }
def WindRingsUptoSaid : Prop := windRingsUptoRow.holds Tryd.pinned (OpenSpec.upto windRingsSpec)

/-- 'annuluslaw21.WindTriangles', WHERE WHAT IT READS IS OF BULK AT MOST 1048576: true; the input reads as it did. -/
def windTrianglesUptoRow : OpenClaim := { program := "ytmgbegcamhkblaadoor", sum := "75af16194887d61025259cb9ba120b7b47a0d61674cf57e9a3f3f4b7df54cccd", func := "annulus/annuluslaw21.WindTriangles", spec := "windTriangles", named := ["math/bits.deBruijn32tab"], apart := false, laid := [("math/bits.deBruijn32tab", laid_math_bits_deBruijn32tab)], narrowed := true }
def WindTrianglesUptoSaid : Prop := windTrianglesUptoRow.holds Tryd.pinned (OpenSpec.upto windTrianglesSpec)

/-- 'annuluslaw21.WindQuarters', WHERE WHAT IT READS IS OF BULK AT MOST 1048576: true; the input reads as it did. -/
def windQuartersUptoRow : OpenClaim := { program := "ytmgbegcamhkblaadoor", sum := "75af16194887d61025259cb9ba120b7b47a0d61674cf57e9a3f3f4b7df54cccd", func := "annulus/annuluslaw21.WindQuarters", spec := "windQuarters", named := ["math/bits.deBruijn32tab"], apart := false, laid := [("math/bits.deBruijn32tab", laid_math_bits_deBruijn32tab)], narrowed := true }
def WindQuartersUptoSaid : Prop := windQuartersUptoRow.holds Tryd.pinned (OpenSpec.upto windQuartersSpec)

/-- 'annuluslaw4.DyadPowers', WHERE WHAT IT READS IS OF BULK AT MOST 1048576: true; the input reads as it did. -/
def dyadPowersUptoRow : OpenClaim := { program := "ytmgbegcamhkblaadoor", sum := "75af16194887d61025259cb9ba120b7b47a0d61674cf57e9a3f3f4b7df54cccd", func := "annulus/annuluslaw4.DyadPowers", spec := "dyadPowers", named := ["math/bits.deBruijn32tab"], apart := false, laid := [("math/bits.deBruijn32tab", laid_math_bits_deBruijn32tab)], narrowed := true }
def DyadPowersUptoSaid : Prop := dyadPowersUptoRow.holds Tryd.pinned (OpenSpec.upto dyadPowersSpec)

/-- 'annuluslaw4.DyadForms', WHERE WHAT IT READS IS OF BULK AT MOST 1048576: true; the input reads as it did. -/
def dyadFormsUptoRow : OpenClaim := { program := "ytmgbegcamhkblaadoor", sum := "75af16194887d61025259cb9ba120b7b47a0d61674cf57e9a3f3f4b7df54cccd", func := "annulus/annuluslaw4.DyadForms", spec := "dyadForms", named := ["math/bits.deBruijn32tab"], apart := false, laid := [("math/bits.deBruijn32tab", laid_math_bits_deBruijn32tab)], narrowed := true }
def DyadFormsUptoSaid : Prop := dyadFormsUptoRow.holds Tryd.pinned (OpenSpec.upto dyadFormsSpec)

/-- 'annuluslaw4.DyadLaws', WHERE WHAT IT READS IS OF BULK AT MOST 1048576: true; the input reads as it did. -/
def dyadLawsUptoRow : OpenClaim := { program := "ytmgbegcamhkblaadoor", sum := "75af16194887d61025259cb9ba120b7b47a0d61674cf57e9a3f3f4b7df54cccd", func := "annulus/annuluslaw4.DyadLaws", spec := "dyadLaws", named := ["math/bits.deBruijn32tab"], apart := false, laid := [("math/bits.deBruijn32tab", laid_math_bits_deBruijn32tab)], narrowed := true }
def DyadLawsUptoSaid : Prop := dyadLawsUptoRow.holds Tryd.pinned (OpenSpec.upto dyadLawsSpec)

/-- 'annuluslaw4.DyadTells', WHERE WHAT IT READS IS OF BULK AT MOST 1048576: true; the input reads as it did. -/
def dyadTellsUptoRow : OpenClaim := { program := "ytmgbegcamhkblaadoor", sum := "75af16194887d61025259cb9ba120b7b47a0d61674cf57e9a3f3f4b7df54cccd", func := "annulus/annuluslaw4.DyadTells", spec := "dyadTells", named := ["math/bits.deBruijn32tab"], apart := false, laid := [("math/bits.deBruijn32tab", laid_math_bits_deBruijn32tab)], narrowed := true }
def DyadTellsUptoSaid : Prop := dyadTellsUptoRow.holds Tryd.pinned (OpenSpec.upto dyadTellsSpec)

/-- 'annuluslaw4.DyadTops', WHERE WHAT IT READS IS OF BULK AT MOST 1048576: true; the input reads as it did. -/
def dyadTopsUptoRow : OpenClaim := { program := "ytmgbegcamhkblaadoor", sum := "75af16194887d61025259cb9ba120b7b47a0d61674cf57e9a3f3f4b7df54cccd", func := "annulus/annuluslaw4.DyadTops", spec := "dyadTops", named := ["math/bits.deBruijn32tab"], apart := false, laid := [("math/bits.deBruijn32tab", laid_math_bits_deBruijn32tab)], narrowed := true }
def DyadTopsUptoSaid : Prop := dyadTopsUptoRow.holds Tryd.pinned (OpenSpec.upto dyadTopsSpec)

/-- 'annuluslaw5.RoundTells', WHERE WHAT IT READS IS OF BULK AT MOST 1048576: true; the input reads as it did. -/
def roundTellsUptoRow : OpenClaim := { program := "ytmgbegcamhkblaadoor", sum := "75af16194887d61025259cb9ba120b7b47a0d61674cf57e9a3f3f4b7df54cccd", func := "annulus/annuluslaw5.RoundTells", spec := "roundTells", named := ["math/bits.deBruijn32tab"], apart := false, laid := [("math/bits.deBruijn32tab", laid_math_bits_deBruijn32tab)], narrowed := true }
def RoundTellsUptoSaid : Prop := roundTellsUptoRow.holds Tryd.pinned (OpenSpec.upto roundTellsSpec)

/-- 'annuluslaw5.RoundSides', WHERE WHAT IT READS IS OF BULK AT MOST 1048576: true; the input reads as it did. -/
def roundSidesUptoRow : OpenClaim := { program := "ytmgbegcamhkblaadoor", sum := "75af16194887d61025259cb9ba120b7b47a0d61674cf57e9a3f3f4b7df54cccd", func := "annulus/annuluslaw5.RoundSides", spec := "roundSides", named := ["math/bits.deBruijn32tab"], apart := false, laid := [("math/bits.deBruijn32tab", laid_math_bits_deBruijn32tab)], narrowed := true }
def RoundSidesUptoSaid : Prop := roundSidesUptoRow.holds Tryd.pinned (OpenSpec.upto roundSidesSpec)

/-- 'annuluslaw5.RoundGrid', WHERE WHAT IT READS IS OF BULK AT MOST 1048576: true; the input reads as it did. -/
def roundGridUptoRow : OpenClaim := { program := "ytmgbegcamhkblaadoor", sum := "75af16194887d61025259cb9ba120b7b47a0d61674cf57e9a3f3f4b7df54cccd", func := "annulus/annuluslaw5.RoundGrid", spec := "roundGrid", named := ["math/bits.deBruijn32tab"], apart := false, laid := [("math/bits.deBruijn32tab", laid_math_bits_deBruijn32tab)], narrowed := true }
def RoundGridUptoSaid : Prop := roundGridUptoRow.holds Tryd.pinned (OpenSpec.upto roundGridSpec)

/-- 'annuluslaw5.RoundHalves', WHERE WHAT IT READS IS OF BULK AT MOST 1048576: true; the input reads as it did. -/
def roundHalvesUptoRow : OpenClaim := { program := "ytmgbegcamhkblaadoor", sum := "75af16194887d61025259cb9ba120b7b47a0d61674cf57e9a3f3f4b7df54cccd", func := "annulus/annuluslaw5.RoundHalves", spec := "roundHalves", named := ["math/bits.deBruijn32tab"], apart := false, laid := [("math/bits.deBruijn32tab", laid_math_bits_deBruijn32tab)], narrowed := true }
def RoundHalvesUptoSaid : Prop := roundHalvesUptoRow.holds Tryd.pinned (OpenSpec.upto roundHalvesSpec)

/-- 'annuluslaw5.RoundTwice', WHERE WHAT IT READS IS OF BULK AT MOST 1048576: true; the input reads as it did. -/
def roundTwiceUptoRow : OpenClaim := { program := "ytmgbegcamhkblaadoor", sum := "75af16194887d61025259cb9ba120b7b47a0d61674cf57e9a3f3f4b7df54cccd", func := "annulus/annuluslaw5.RoundTwice", spec := "roundTwice", named := ["math/bits.deBruijn32tab"], apart := false, laid := [("math/bits.deBruijn32tab", laid_math_bits_deBruijn32tab)], narrowed := true }
def RoundTwiceUptoSaid : Prop := roundTwiceUptoRow.holds Tryd.pinned (OpenSpec.upto roundTwiceSpec)

/-- 'annuluslaw16.BoxDeep', WHERE WHAT IT READS IS OF BULK AT MOST 1048576: true; the input reads as it did. -/
def boxDeepUptoRow : OpenClaim := { program := "ytmgbegcamhkblaadoor", sum := "75af16194887d61025259cb9ba120b7b47a0d61674cf57e9a3f3f4b7df54cccd", func := "annulus/annuluslaw16.BoxDeep", spec := "boxDeep", named := ["math/bits.deBruijn32tab"], apart := false, laid := [("math/bits.deBruijn32tab", laid_math_bits_deBruijn32tab)], narrowed := true }
def BoxDeepUptoSaid : Prop := boxDeepUptoRow.holds Tryd.pinned (OpenSpec.upto boxDeepSpec)

/-- 'annuluslaw7.RealSigns', WHERE WHAT IT READS IS OF BULK AT MOST 1048576: true; the input reads as it did. -/
def realSignsUptoRow : OpenClaim := { program := "ytmgbegcamhkblaadoor", sum := "75af16194887d61025259cb9ba120b7b47a0d61674cf57e9a3f3f4b7df54cccd", func := "annulus/annuluslaw7.RealSigns", spec := "realSigns", named := ["math/bits.deBruijn32tab"], apart := false, laid := [("math/bits.deBruijn32tab", laid_math_bits_deBruijn32tab)], narrowed := true }
def RealSignsUptoSaid : Prop := realSignsUptoRow.holds Tryd.pinned (OpenSpec.upto realSignsSpec)

/-- 'annuluslaw7.RealLess', WHERE WHAT IT READS IS OF BULK AT MOST 1048576: true; the input reads as it did. -/
def realLessUptoRow : OpenClaim := { program := "ytmgbegcamhkblaadoor", sum := "75af16194887d61025259cb9ba120b7b47a0d61674cf57e9a3f3f4b7df54cccd", func := "annulus/annuluslaw7.RealLess", spec := "realLess", named := ["math/bits.deBruijn32tab"], apart := false, laid := [("math/bits.deBruijn32tab", laid_math_bits_deBruijn32tab)], narrowed := true }
def RealLessUptoSaid : Prop := realLessUptoRow.holds Tryd.pinned (OpenSpec.upto realLessSpec)

/-- 'annuluslaw7.RealEnds', WHERE WHAT IT READS IS OF BULK AT MOST 1048576: true; the input reads as it did. -/
def realEndsUptoRow : OpenClaim := { program := "ytmgbegcamhkblaadoor", sum := "75af16194887d61025259cb9ba120b7b47a0d61674cf57e9a3f3f4b7df54cccd", func := "annulus/annuluslaw7.RealEnds", spec := "realEnds", named := ["math/bits.deBruijn32tab"], apart := false, laid := [("math/bits.deBruijn32tab", laid_math_bits_deBruijn32tab)], narrowed := true }
def RealEndsUptoSaid : Prop := realEndsUptoRow.holds Tryd.pinned (OpenSpec.upto realEndsSpec)

end Rows
end Go.Proofs.YtmgbegcamhkblaaDoor
