/-
  NARROWER THAN 'FOR EVERY INPUT', by the rows' own cells (each row's printed sentence says how): WindRings: laid · RealSigns: laid · RealLess: laid · RealEnds: laid.
  DERIVED. THE GIVEN ROWS OF THIS SEAT. 4 by the template 'for every input the law returns true; each argument reads behind the call as it read before'; 0 by the template 'total and deterministic' (their statements: YtlhhckpjcglinaaDoorTotals.lean).
  GIVEN WITH THE SEED: the statements are not yours to turn. If you find one false, say at which input.
  Laid BY PROGRAM, IN A SANDBOX (cutbox-rows.mjs): the forced cells as the released guide's own fill.sh prints them over the translation 185fb4101ffe6b95… (all of the seat's roots in one cut). By AI agents, Wed Nov 11 2026. No macro, syntax, notation, axiom, sorry.
-/
import Derived.Test.YtlhhckpjcglinaaDoorChecked
import GoSem.Claim
import GoSem.ClaimJoined
import GoSem.ClaimMapViews
import Derived.JoinedTies
import Derived.KernelRfl
namespace Go.Proofs.YtlhhckpjcglinaaDoor
/- THE CELL 'sum', in the pinned program and in every row, IS THE sha256 OF THE DUMP (.gsa) THAT YtlhhckpjcglinaaDoorProg.lean LOADS. Nothing in Lean hashes anything: it is a label: what it is worth is what the hold of that sum in a sandbox is worth. -/
noncomputable def Tryd.pinned : Pinned := { name := "ytlhhckpjcglinaadoor", sum := "185fb4101ffe6b95ba94f53b9afe4e56bb9ecb1f6a3901a200792be8762dc6c0", checked := Tryd.checked }
namespace Rows
def none {H : Type} : Left H := { results := [], args := [] }

/- WHAT THE LISTED PACKAGE-LEVEL VARIABLES READ AS WHEN THE CALL BEGINS. Each datum BY PROGRAM (the guide's laid-datum.mjs) off the statement by which the dump's own 'gosem.cut.vars' lays the variable. In a bare row this is a premise. The card (YtlhhckpjcglinaaDoorCards.lean) ties it to the program's text. -/
def laid_math_bits_deBruijn32tab {H : Type} : DataW H := .agg [.lit (.int .u8 0), .lit (.int .u8 1), .lit (.int .u8 28), .lit (.int .u8 2), .lit (.int .u8 29), .lit (.int .u8 14), .lit (.int .u8 24), .lit (.int .u8 3), .lit (.int .u8 30), .lit (.int .u8 22), .lit (.int .u8 20), .lit (.int .u8 15), .lit (.int .u8 25), .lit (.int .u8 17), .lit (.int .u8 4), .lit (.int .u8 8), .lit (.int .u8 31), .lit (.int .u8 27), .lit (.int .u8 13), .lit (.int .u8 23), .lit (.int .u8 21), .lit (.int .u8 19), .lit (.int .u8 16), .lit (.int .u8 7), .lit (.int .u8 26), .lit (.int .u8 12), .lit (.int .u8 18), .lit (.int .u8 6), .lit (.int .u8 11), .lit (.int .u8 5), .lit (.int .u8 10), .lit (.int .u8 9)]

/-- 'annuluslaw21.WindRings': WHATEVER THE INPUT: true; the input reads as it did. -/
def windRingsSpec : ChangeSpec := { name := "windRings", fn := fun _ => fun
  | [d1, d2, d3, d4] => { results := [.lit (.bool true)], args := [d1, d2, d3, d4] }
  | _ => none }
def windRingsRow : OpenClaim := { program := "ytlhhckpjcglinaadoor", sum := "185fb4101ffe6b95ba94f53b9afe4e56bb9ecb1f6a3901a200792be8762dc6c0", func := "annulus/annuluslaw21.WindRings", spec := "windRings", named := ["math/bits.deBruijn32tab"], apart := false, laid := [("math/bits.deBruijn32tab", laid_math_bits_deBruijn32tab)] }
def WindRingsSaid : Prop := windRingsRow.holds Tryd.pinned (OpenSpec.ofChange windRingsSpec)

/-- ITS FALSE NEIGHBOUR: 'it returns false'. Refute it at one input. -/
def windRingsWrong : ChangeSpec := { name := "windRings", fn := fun _ => fun
  | [d1, d2, d3, d4] => { results := [.lit (.bool false)], args := [d1, d2, d3, d4] }
  | _ => none }
def WindRingsWrongFalsely : Prop := windRingsRow.holds Tryd.pinned (OpenSpec.ofChange windRingsWrong)

/-- 'annuluslaw7.RealSigns': WHATEVER THE INPUT: true; the input reads as it did. -/
def realSignsSpec : ChangeSpec := { name := "realSigns", fn := fun _ => fun
  | [d1, d2, d3] => { results := [.lit (.bool true)], args := [d1, d2, d3] }
  | _ => none }
def realSignsRow : OpenClaim := { program := "ytlhhckpjcglinaadoor", sum := "185fb4101ffe6b95ba94f53b9afe4e56bb9ecb1f6a3901a200792be8762dc6c0", func := "annulus/annuluslaw7.RealSigns", spec := "realSigns", named := ["math/bits.deBruijn32tab"], apart := false, laid := [("math/bits.deBruijn32tab", laid_math_bits_deBruijn32tab)] }
def RealSignsSaid : Prop := realSignsRow.holds Tryd.pinned (OpenSpec.ofChange realSignsSpec)

/-- ITS FALSE NEIGHBOUR: 'it returns false'. Refute it at one input. -/
def realSignsWrong : ChangeSpec := { name := "realSigns", fn := fun _ => fun
  | [d1, d2, d3] => { results := [.lit (.bool false)], args := [d1, d2, d3] }
  | _ => none }
def RealSignsWrongFalsely : Prop := realSignsRow.holds Tryd.pinned (OpenSpec.ofChange realSignsWrong)

/-- 'annuluslaw7.RealLess': WHATEVER THE INPUT: true; the input reads as it did. -/
def realLessSpec : ChangeSpec := { name := "realLess", fn := fun _ => fun
  | [d1, d2, d3, d4] => { results := [.lit (.bool true)], args := [d1, d2, d3, d4] }
  | _ => none }
def realLessRow : OpenClaim := { program := "ytlhhckpjcglinaadoor", sum := "185fb4101ffe6b95ba94f53b9afe4e56bb9ecb1f6a3901a200792be8762dc6c0", func := "annulus/annuluslaw7.RealLess", spec := "realLess", named := ["math/bits.deBruijn32tab"], apart := false, laid := [("math/bits.deBruijn32tab", laid_math_bits_deBruijn32tab)] }
def RealLessSaid : Prop := realLessRow.holds Tryd.pinned (OpenSpec.ofChange realLessSpec)

/-- ITS FALSE NEIGHBOUR: 'it returns false'. Refute it at one input. -/
def realLessWrong : ChangeSpec := { name := "realLess", fn := fun _ => fun
  | [d1, d2, d3, d4] => { results := [.lit (.bool false)], args := [d1, d2, d3, d4] }
  | _ => none }
def RealLessWrongFalsely : Prop := realLessRow.holds Tryd.pinned (OpenSpec.ofChange realLessWrong)

/-- 'annuluslaw7.RealEnds': WHATEVER THE INPUT: true; the input reads as it did. -/
def realEndsSpec : ChangeSpec := { name := "realEnds", fn := fun _ => fun
  | [d1, d2, d3] => { results := [.lit (.bool true)], args := [d1, d2, d3] }
  | _ => none }
def realEndsRow : OpenClaim := { program := "ytlhhckpjcglinaadoor", sum := "185fb4101ffe6b95ba94f53b9afe4e56bb9ecb1f6a3901a200792be8762dc6c0", func := "annulus/annuluslaw7.RealEnds", spec := "realEnds", named := ["math/bits.deBruijn32tab"], apart := false, laid := [("math/bits.deBruijn32tab", laid_math_bits_deBruijn32tab)] }
def RealEndsSaid : Prop := realEndsRow.holds Tryd.pinned (OpenSpec.ofChange realEndsSpec)

/-- ITS FALSE NEIGHBOUR: 'it returns false'. Refute it at one input. -/
def realEndsWrong : ChangeSpec := { name := "realEnds", fn := fun _ => fun
  | [d1, d2, d3] => { results := [.lit (.bool false)], args := [d1, d2, d3] }
  | _ => none }
def RealEndsWrongFalsely : Prop := realEndsRow.holds Tryd.pinned (OpenSpec.ofChange realEndsWrong)

/- THE SECOND FORM. 'bulk': how many values and letters a reading holds, each counted each time it is reached (what is shared counts as often as it is met; a slice's spare places count too). A statement '..UptoSaid' is the law's where the arguments, and the package variables that the reading takes, are together of bulk at most 1048576: NARROWER than '..Said'. Prove '..Said' where nothing that the law and all that it calls make is longer than what came in: it says more and counts as full. Else prove '..UptoSaid'. A law counts once. -/
mutual
def uptoBulk {H : Type} : DataW H → Nat
  | .lit (.string bytes) => bytes.length + 1
  | .lit _ => 1
  | .nil => 1
  | .ptr d => uptoBulk d + 1
  | .slice elems spare => uptoBulkAll elems + uptoBulkAll spare + 1
  | .agg parts => uptoBulkAll parts + 1
  | .iface _ d => uptoBulk d + 1
  | .map entries => uptoBulkEntries entries + 1
  | .held _ => 1
def uptoBulkAll {H : Type} : List (DataW H) → Nat
  | [] => 0
  | d :: r => uptoBulk d + uptoBulkAll r
def uptoBulkEntries {H : Type} : List (Lit × DataW H) → Nat
  | [] => 0
  | x :: r => uptoBulkEntry x + uptoBulkEntries r
def uptoBulkEntry {H : Type} : Lit × DataW H → Nat
  | (.string bytes, d) => bytes.length + uptoBulk d + 1
  | (_, d) => uptoBulk d + 1
 end
def uptoSmall : (H : Type) → List (DataW H) → Bool := fun _ ds => decide (uptoBulkAll ds ≤ 1048576)
def OpenSpec.upto (s : _root_.Go.ChangeSpec) : _root_.Go.OpenSpec := { _root_.Go.OpenSpec.ofChange s with cond := some uptoSmall }

/-- 'annuluslaw21.WindRings', WHERE WHAT IT READS IS OF BULK AT MOST 1048576: true; the input reads as it did. -/
def windRingsUptoRow : OpenClaim := { program := "ytlhhckpjcglinaadoor", sum := "185fb4101ffe6b95ba94f53b9afe4e56bb9ecb1f6a3901a200792be8762dc6c0", func := "annulus/annuluslaw21.WindRings", spec := "windRings", named := ["math/bits.deBruijn32tab"], apart := false, laid := [("math/bits.deBruijn32tab", laid_math_bits_deBruijn32tab)], narrowed := true }
def WindRingsUptoSaid : Prop := windRingsUptoRow.holds Tryd.pinned (OpenSpec.upto windRingsSpec)

/-- 'annuluslaw7.RealSigns', WHERE WHAT IT READS IS OF BULK AT MOST 1048576: true; the input reads as it did. -/
def realSignsUptoRow : OpenClaim := { program := "ytlhhckpjcglinaadoor", sum := "185fb4101ffe6b95ba94f53b9afe4e56bb9ecb1f6a3901a200792be8762dc6c0", func := "annulus/annuluslaw7.RealSigns", spec := "realSigns", named := ["math/bits.deBruijn32tab"], apart := false, laid := [("math/bits.deBruijn32tab", laid_math_bits_deBruijn32tab)], narrowed := true }
def RealSignsUptoSaid : Prop := realSignsUptoRow.holds Tryd.pinned (OpenSpec.upto realSignsSpec)

/-- 'annuluslaw7.RealLess', WHERE WHAT IT READS IS OF BULK AT MOST 1048576: true; the input reads as it did. -/
def realLessUptoRow : OpenClaim := { program := "ytlhhckpjcglinaadoor", sum := "185fb4101ffe6b95ba94f53b9afe4e56bb9ecb1f6a3901a200792be8762dc6c0", func := "annulus/annuluslaw7.RealLess", spec := "realLess", named := ["math/bits.deBruijn32tab"], apart := false, laid := [("math/bits.deBruijn32tab", laid_math_bits_deBruijn32tab)], narrowed := true }
def RealLessUptoSaid : Prop := realLessUptoRow.holds Tryd.pinned (OpenSpec.upto realLessSpec)

/-- 'annuluslaw7.RealEnds', WHERE WHAT IT READS IS OF BULK AT MOST 1048576: true; the input reads as it did. -/
def realEndsUptoRow : OpenClaim := { program := "ytlhhckpjcglinaadoor", sum := "185fb4101ffe6b95ba94f53b9afe4e56bb9ecb1f6a3901a200792be8762dc6c0", func := "annulus/annuluslaw7.RealEnds", spec := "realEnds", named := ["math/bits.deBruijn32tab"], apart := false, laid := [("math/bits.deBruijn32tab", laid_math_bits_deBruijn32tab)], narrowed := true }
def RealEndsUptoSaid : Prop := realEndsUptoRow.holds Tryd.pinned (OpenSpec.upto realEndsSpec)

end Rows
end Go.Proofs.YtlhhckpjcglinaaDoor
