/-
  DERIVED. GIVEN WITH THE SEED: THE CARDS: each row of YtmgbegcamhkblaaDoorRows.lean that lists a variable, with what it lists TIED to the program's text (the seventh form; the later family's looks); each row that meets fmt, with fmt's text TOLD by the authors' own Lean function (tested against real Go, not proved from fmt's source: count such statements apart). THE CARD IS WHAT COUNTS. Prove the row's statement (the work); the ties are given (YtmgbegcamhkblaaDoorTie.lean); close each card by the builder's one call (the guide's Derived/Test/ToyasCard.lean, 'card_holds'). Laid BY PROGRAM, IN A SANDBOX (cutbox-door.mjs). By AI agents, Wed Nov 11 2026. No macro, syntax, notation, axiom, sorry.
-/
import Derived.Test.YtmgbegcamhkblaaDoorRows
import GoSem.ClaimSeven
namespace Go.Proofs.YtmgbegcamhkblaaDoor
namespace Rows

/-- THE TIED CARD OF 'annuluslaw21.WindTells'. -/
def windTellsCard : Claim7 := { stood := { row := windTellsRow, standIns := [], harness := (true, "9fb38e91aee4b2f13a715f0e26c4eb81e81ae1eeafeaca813ec1240f86f323ec"), looks := false }, kinds := [], alts := [], laidByText := true, laidKinds := [.data], laidTests := true, laidLooks := .later }
def WindTellsCardSaid : Prop := Claim7.holds Tryd.pinned (.plain (OpenSpec.ofChange windTellsSpec)) windTellsCard

/-- THE TIED CARD OF 'annuluslaw21.WindBack'. -/
def windBackCard : Claim7 := { stood := { row := windBackRow, standIns := [], harness := (true, "9fb38e91aee4b2f13a715f0e26c4eb81e81ae1eeafeaca813ec1240f86f323ec"), looks := false }, kinds := [], alts := [], laidByText := true, laidKinds := [.data], laidTests := true, laidLooks := .later }
def WindBackCardSaid : Prop := Claim7.holds Tryd.pinned (.plain (OpenSpec.ofChange windBackSpec)) windBackCard

/-- THE TIED CARD OF 'annuluslaw21.WindRings'. -/
def windRingsCard : Claim7 := { stood := { row := windRingsRow, standIns := [], harness := (true, "9fb38e91aee4b2f13a715f0e26c4eb81e81ae1eeafeaca813ec1240f86f323ec"), looks := false }, kinds := [], alts := [], laidByText := true, laidKinds := [.data], laidTests := true, laidLooks := .later }
def WindRingsCardSaid : Prop := Claim7.holds Tryd.pinned (.plain (OpenSpec.ofChange windRingsSpec)) windRingsCard

/-- THE TIED CARD OF 'annuluslaw21.WindTriangles'. -/
def windTrianglesCard : Claim7 := { stood := { row := windTrianglesRow, standIns := [], harness := (true, "9fb38e91aee4b2f13a715f0e26c4eb81e81ae1eeafeaca813ec1240f86f323ec"), looks := false }, kinds := [], alts := [], laidByText := true, laidKinds := [.data], laidTests := true, laidLooks := .later }
def WindTrianglesCardSaid : Prop := Claim7.holds Tryd.pinned (.plain (OpenSpec.ofChange windTrianglesSpec)) windTrianglesCard

/-- THE TIED CARD OF 'annuluslaw21.WindQuarters'. -/
def windQuartersCard : Claim7 := { stood := { row := windQuartersRow, standIns := [], harness := (true, "9fb38e91aee4b2f13a715f0e26c4eb81e81ae1eeafeaca813ec1240f86f323ec"), looks := false }, kinds := [], alts := [], laidByText := true, laidKinds := [.data], laidTests := true, laidLooks := .later }
def WindQuartersCardSaid : Prop := Claim7.holds Tryd.pinned (.plain (OpenSpec.ofChange windQuartersSpec)) windQuartersCard

/-- THE TIED CARD OF 'annuluslaw4.DyadPowers'. -/
def dyadPowersCard : Claim7 := { stood := { row := dyadPowersRow, standIns := [], harness := (true, "9fb38e91aee4b2f13a715f0e26c4eb81e81ae1eeafeaca813ec1240f86f323ec"), looks := false }, kinds := [], alts := [], laidByText := true, laidKinds := [.data], laidTests := true, laidLooks := .later }
def DyadPowersCardSaid : Prop := Claim7.holds Tryd.pinned (.plain (OpenSpec.ofChange dyadPowersSpec)) dyadPowersCard

/-- THE TIED CARD OF 'annuluslaw4.DyadForms'. -/
def dyadFormsCard : Claim7 := { stood := { row := dyadFormsRow, standIns := [], harness := (true, "9fb38e91aee4b2f13a715f0e26c4eb81e81ae1eeafeaca813ec1240f86f323ec"), looks := false }, kinds := [], alts := [], laidByText := true, laidKinds := [.data], laidTests := true, laidLooks := .later }
def DyadFormsCardSaid : Prop := Claim7.holds Tryd.pinned (.plain (OpenSpec.ofChange dyadFormsSpec)) dyadFormsCard

/-- THE TIED CARD OF 'annuluslaw4.DyadLaws'. -/
def dyadLawsCard : Claim7 := { stood := { row := dyadLawsRow, standIns := [], harness := (true, "9fb38e91aee4b2f13a715f0e26c4eb81e81ae1eeafeaca813ec1240f86f323ec"), looks := false }, kinds := [], alts := [], laidByText := true, laidKinds := [.data], laidTests := true, laidLooks := .later }
def DyadLawsCardSaid : Prop := Claim7.holds Tryd.pinned (.plain (OpenSpec.ofChange dyadLawsSpec)) dyadLawsCard

/-- THE TIED CARD OF 'annuluslaw4.DyadTells'. -/
def dyadTellsCard : Claim7 := { stood := { row := dyadTellsRow, standIns := [], harness := (true, "9fb38e91aee4b2f13a715f0e26c4eb81e81ae1eeafeaca813ec1240f86f323ec"), looks := false }, kinds := [], alts := [], laidByText := true, laidKinds := [.data], laidTests := true, laidLooks := .later }
def DyadTellsCardSaid : Prop := Claim7.holds Tryd.pinned (.plain (OpenSpec.ofChange dyadTellsSpec)) dyadTellsCard

/-- THE TIED CARD OF 'annuluslaw4.DyadTops'. -/
def dyadTopsCard : Claim7 := { stood := { row := dyadTopsRow, standIns := [], harness := (true, "9fb38e91aee4b2f13a715f0e26c4eb81e81ae1eeafeaca813ec1240f86f323ec"), looks := false }, kinds := [], alts := [], laidByText := true, laidKinds := [.data], laidTests := true, laidLooks := .later }
def DyadTopsCardSaid : Prop := Claim7.holds Tryd.pinned (.plain (OpenSpec.ofChange dyadTopsSpec)) dyadTopsCard

/-- THE TIED CARD OF 'annuluslaw5.RoundTells'. -/
def roundTellsCard : Claim7 := { stood := { row := roundTellsRow, standIns := [], harness := (true, "9fb38e91aee4b2f13a715f0e26c4eb81e81ae1eeafeaca813ec1240f86f323ec"), looks := false }, kinds := [], alts := [], laidByText := true, laidKinds := [.data], laidTests := true, laidLooks := .later }
def RoundTellsCardSaid : Prop := Claim7.holds Tryd.pinned (.plain (OpenSpec.ofChange roundTellsSpec)) roundTellsCard

/-- THE TIED CARD OF 'annuluslaw5.RoundSides'. -/
def roundSidesCard : Claim7 := { stood := { row := roundSidesRow, standIns := [], harness := (true, "9fb38e91aee4b2f13a715f0e26c4eb81e81ae1eeafeaca813ec1240f86f323ec"), looks := false }, kinds := [], alts := [], laidByText := true, laidKinds := [.data], laidTests := true, laidLooks := .later }
def RoundSidesCardSaid : Prop := Claim7.holds Tryd.pinned (.plain (OpenSpec.ofChange roundSidesSpec)) roundSidesCard

/-- THE TIED CARD OF 'annuluslaw5.RoundGrid'. -/
def roundGridCard : Claim7 := { stood := { row := roundGridRow, standIns := [], harness := (true, "9fb38e91aee4b2f13a715f0e26c4eb81e81ae1eeafeaca813ec1240f86f323ec"), looks := false }, kinds := [], alts := [], laidByText := true, laidKinds := [.data], laidTests := true, laidLooks := .later }
def RoundGridCardSaid : Prop := Claim7.holds Tryd.pinned (.plain (OpenSpec.ofChange roundGridSpec)) roundGridCard

/-- THE TIED CARD OF 'annuluslaw5.RoundHalves'. -/
def roundHalvesCard : Claim7 := { stood := { row := roundHalvesRow, standIns := [], harness := (true, "9fb38e91aee4b2f13a715f0e26c4eb81e81ae1eeafeaca813ec1240f86f323ec"), looks := false }, kinds := [], alts := [], laidByText := true, laidKinds := [.data], laidTests := true, laidLooks := .later }
def RoundHalvesCardSaid : Prop := Claim7.holds Tryd.pinned (.plain (OpenSpec.ofChange roundHalvesSpec)) roundHalvesCard

/-- THE TIED CARD OF 'annuluslaw5.RoundTwice'. -/
def roundTwiceCard : Claim7 := { stood := { row := roundTwiceRow, standIns := [], harness := (true, "9fb38e91aee4b2f13a715f0e26c4eb81e81ae1eeafeaca813ec1240f86f323ec"), looks := false }, kinds := [], alts := [], laidByText := true, laidKinds := [.data], laidTests := true, laidLooks := .later }
def RoundTwiceCardSaid : Prop := Claim7.holds Tryd.pinned (.plain (OpenSpec.ofChange roundTwiceSpec)) roundTwiceCard

/-- THE TIED CARD OF 'annuluslaw16.BoxDeep'. -/
def boxDeepCard : Claim7 := { stood := { row := boxDeepRow, standIns := [], harness := (true, "9fb38e91aee4b2f13a715f0e26c4eb81e81ae1eeafeaca813ec1240f86f323ec"), looks := false }, kinds := [], alts := [], laidByText := true, laidKinds := [.data], laidTests := true, laidLooks := .later }
def BoxDeepCardSaid : Prop := Claim7.holds Tryd.pinned (.plain (OpenSpec.ofChange boxDeepSpec)) boxDeepCard

/-- THE TIED CARD OF 'annuluslaw7.RealSigns'. -/
def realSignsCard : Claim7 := { stood := { row := realSignsRow, standIns := [], harness := (true, "9fb38e91aee4b2f13a715f0e26c4eb81e81ae1eeafeaca813ec1240f86f323ec"), looks := false }, kinds := [], alts := [], laidByText := true, laidKinds := [.data], laidTests := true, laidLooks := .later }
def RealSignsCardSaid : Prop := Claim7.holds Tryd.pinned (.plain (OpenSpec.ofChange realSignsSpec)) realSignsCard

/-- THE TIED CARD OF 'annuluslaw7.RealLess'. -/
def realLessCard : Claim7 := { stood := { row := realLessRow, standIns := [], harness := (true, "9fb38e91aee4b2f13a715f0e26c4eb81e81ae1eeafeaca813ec1240f86f323ec"), looks := false }, kinds := [], alts := [], laidByText := true, laidKinds := [.data], laidTests := true, laidLooks := .later }
def RealLessCardSaid : Prop := Claim7.holds Tryd.pinned (.plain (OpenSpec.ofChange realLessSpec)) realLessCard

/-- THE TIED CARD OF 'annuluslaw7.RealEnds'. -/
def realEndsCard : Claim7 := { stood := { row := realEndsRow, standIns := [], harness := (true, "9fb38e91aee4b2f13a715f0e26c4eb81e81ae1eeafeaca813ec1240f86f323ec"), looks := false }, kinds := [], alts := [], laidByText := true, laidKinds := [.data], laidTests := true, laidLooks := .later }
def RealEndsCardSaid : Prop := Claim7.holds Tryd.pinned (.plain (OpenSpec.ofChange realEndsSpec)) realEndsCard

/-- THE SECOND FORM's CARD OF 'annuluslaw21.WindTells'. -/
def windTellsUptoCard : Claim7 := { stood := { row := windTellsUptoRow, standIns := [], harness := (true, "9fb38e91aee4b2f13a715f0e26c4eb81e81ae1eeafeaca813ec1240f86f323ec"), looks := false }, kinds := [], alts := [], laidByText := true, laidKinds := [.data], laidTests := true, laidLooks := .later }
def WindTellsUptoCardSaid : Prop := Claim7.holds Tryd.pinned (.plain (OpenSpec.upto windTellsSpec)) windTellsUptoCard

/-- THE SECOND FORM's CARD OF 'annuluslaw21.WindBack'. -/
def windBackUptoCard : Claim7 := { stood := { row := windBackUptoRow, standIns := [], harness := (true, "9fb38e91aee4b2f13a715f0e26c4eb81e81ae1eeafeaca813ec1240f86f323ec"), looks := false }, kinds := [], alts := [], laidByText := true, laidKinds := [.data], laidTests := true, laidLooks := .later }
def WindBackUptoCardSaid : Prop := Claim7.holds Tryd.pinned (.plain (OpenSpec.upto windBackSpec)) windBackUptoCard

/-- THE SECOND FORM's CARD OF 'annuluslaw21.WindRings'. -/
def windRingsUptoCard : Claim7 := { stood := { row := windRingsUptoRow, standIns := [], harness := (true, "9fb38e91aee4b2f13a715f0e26c4eb81e81ae1eeafeaca813ec1240f86f323ec"), looks := false }, kinds := [], alts := [], laidByText := true, laidKinds := [.data], laidTests := true, laidLooks := .later }
def WindRingsUptoCardSaid : Prop := Claim7.holds Tryd.pinned (.plain (OpenSpec.upto windRingsSpec)) windRingsUptoCard

/-- THE SECOND FORM's CARD OF 'annuluslaw21.WindTriangles'. -/
def windTrianglesUptoCard : Claim7 := { stood := { row := windTrianglesUptoRow, standIns := [], harness := (true, "9fb38e91aee4b2f13a715f0e26c4eb81e81ae1eeafeaca813ec1240f86f323ec"), looks := false }, kinds := [], alts := [], laidByText := true, laidKinds := [.data], laidTests := true, laidLooks := .later }
def WindTrianglesUptoCardSaid : Prop := Claim7.holds Tryd.pinned (.plain (OpenSpec.upto windTrianglesSpec)) windTrianglesUptoCard

/-- THE SECOND FORM's CARD OF 'annuluslaw21.WindQuarters'. -/
def windQuartersUptoCard : Claim7 := { stood := { row := windQuartersUptoRow, standIns := [], harness := (true, "9fb38e91aee4b2f13a715f0e26c4eb81e81ae1eeafeaca813ec1240f86f323ec"), looks := false }, kinds := [], alts := [], laidByText := true, laidKinds := [.data], laidTests := true, laidLooks := .later }
def WindQuartersUptoCardSaid : Prop := Claim7.holds Tryd.pinned (.plain (OpenSpec.upto windQuartersSpec)) windQuartersUptoCard

/-- THE SECOND FORM's CARD OF 'annuluslaw4.DyadPowers'. -/
def dyadPowersUptoCard : Claim7 := { stood := { row := dyadPowersUptoRow, standIns := [], harness := (true, "9fb38e91aee4b2f13a715f0e26c4eb81e81ae1eeafeaca813ec1240f86f323ec"), looks := false }, kinds := [], alts := [], laidByText := true, laidKinds := [.data], laidTests := true, laidLooks := .later }
def DyadPowersUptoCardSaid : Prop := Claim7.holds Tryd.pinned (.plain (OpenSpec.upto dyadPowersSpec)) dyadPowersUptoCard

/-- THE SECOND FORM's CARD OF 'annuluslaw4.DyadForms'. -/
def dyadFormsUptoCard : Claim7 := { stood := { row := dyadFormsUptoRow, standIns := [], harness := (true, "9fb38e91aee4b2f13a715f0e26c4eb81e81ae1eeafeaca813ec1240f86f323ec"), looks := false }, kinds := [], alts := [], laidByText := true, laidKinds := [.data], laidTests := true, laidLooks := .later }
def DyadFormsUptoCardSaid : Prop := Claim7.holds Tryd.pinned (.plain (OpenSpec.upto dyadFormsSpec)) dyadFormsUptoCard

/-- THE SECOND FORM's CARD OF 'annuluslaw4.DyadLaws'. -/
def dyadLawsUptoCard : Claim7 := { stood := { row := dyadLawsUptoRow, standIns := [], harness := (true, "9fb38e91aee4b2f13a715f0e26c4eb81e81ae1eeafeaca813ec1240f86f323ec"), looks := false }, kinds := [], alts := [], laidByText := true, laidKinds := [.data], laidTests := true, laidLooks := .later }
def DyadLawsUptoCardSaid : Prop := Claim7.holds Tryd.pinned (.plain (OpenSpec.upto dyadLawsSpec)) dyadLawsUptoCard

/-- THE SECOND FORM's CARD OF 'annuluslaw4.DyadTells'. -/
def dyadTellsUptoCard : Claim7 := { stood := { row := dyadTellsUptoRow, standIns := [], harness := (true, "9fb38e91aee4b2f13a715f0e26c4eb81e81ae1eeafeaca813ec1240f86f323ec"), looks := false }, kinds := [], alts := [], laidByText := true, laidKinds := [.data], laidTests := true, laidLooks := .later }
def DyadTellsUptoCardSaid : Prop := Claim7.holds Tryd.pinned (.plain (OpenSpec.upto dyadTellsSpec)) dyadTellsUptoCard

/-- THE SECOND FORM's CARD OF 'annuluslaw4.DyadTops'. -/
def dyadTopsUptoCard : Claim7 := { stood := { row := dyadTopsUptoRow, standIns := [], harness := (true, "9fb38e91aee4b2f13a715f0e26c4eb81e81ae1eeafeaca813ec1240f86f323ec"), looks := false }, kinds := [], alts := [], laidByText := true, laidKinds := [.data], laidTests := true, laidLooks := .later }
def DyadTopsUptoCardSaid : Prop := Claim7.holds Tryd.pinned (.plain (OpenSpec.upto dyadTopsSpec)) dyadTopsUptoCard

/-- THE SECOND FORM's CARD OF 'annuluslaw5.RoundTells'. -/
def roundTellsUptoCard : Claim7 := { stood := { row := roundTellsUptoRow, standIns := [], harness := (true, "9fb38e91aee4b2f13a715f0e26c4eb81e81ae1eeafeaca813ec1240f86f323ec"), looks := false }, kinds := [], alts := [], laidByText := true, laidKinds := [.data], laidTests := true, laidLooks := .later }
def RoundTellsUptoCardSaid : Prop := Claim7.holds Tryd.pinned (.plain (OpenSpec.upto roundTellsSpec)) roundTellsUptoCard

/-- THE SECOND FORM's CARD OF 'annuluslaw5.RoundSides'. -/
def roundSidesUptoCard : Claim7 := { stood := { row := roundSidesUptoRow, standIns := [], harness := (true, "9fb38e91aee4b2f13a715f0e26c4eb81e81ae1eeafeaca813ec1240f86f323ec"), looks := false }, kinds := [], alts := [], laidByText := true, laidKinds := [.data], laidTests := true, laidLooks := .later }
def RoundSidesUptoCardSaid : Prop := Claim7.holds Tryd.pinned (.plain (OpenSpec.upto roundSidesSpec)) roundSidesUptoCard

/-- THE SECOND FORM's CARD OF 'annuluslaw5.RoundGrid'. -/
def roundGridUptoCard : Claim7 := { stood := { row := roundGridUptoRow, standIns := [], harness := (true, "9fb38e91aee4b2f13a715f0e26c4eb81e81ae1eeafeaca813ec1240f86f323ec"), looks := false }, kinds := [], alts := [], laidByText := true, laidKinds := [.data], laidTests := true, laidLooks := .later }
def RoundGridUptoCardSaid : Prop := Claim7.holds Tryd.pinned (.plain (OpenSpec.upto roundGridSpec)) roundGridUptoCard

/-- THE SECOND FORM's CARD OF 'annuluslaw5.RoundHalves'. -/
def roundHalvesUptoCard : Claim7 := { stood := { row := roundHalvesUptoRow, standIns := [], harness := (true, "9fb38e91aee4b2f13a715f0e26c4eb81e81ae1eeafeaca813ec1240f86f323ec"), looks := false }, kinds := [], alts := [], laidByText := true, laidKinds := [.data], laidTests := true, laidLooks := .later }
def RoundHalvesUptoCardSaid : Prop := Claim7.holds Tryd.pinned (.plain (OpenSpec.upto roundHalvesSpec)) roundHalvesUptoCard

/-- THE SECOND FORM's CARD OF 'annuluslaw5.RoundTwice'. -/
def roundTwiceUptoCard : Claim7 := { stood := { row := roundTwiceUptoRow, standIns := [], harness := (true, "9fb38e91aee4b2f13a715f0e26c4eb81e81ae1eeafeaca813ec1240f86f323ec"), looks := false }, kinds := [], alts := [], laidByText := true, laidKinds := [.data], laidTests := true, laidLooks := .later }
def RoundTwiceUptoCardSaid : Prop := Claim7.holds Tryd.pinned (.plain (OpenSpec.upto roundTwiceSpec)) roundTwiceUptoCard

/-- THE SECOND FORM's CARD OF 'annuluslaw16.BoxDeep'. -/
def boxDeepUptoCard : Claim7 := { stood := { row := boxDeepUptoRow, standIns := [], harness := (true, "9fb38e91aee4b2f13a715f0e26c4eb81e81ae1eeafeaca813ec1240f86f323ec"), looks := false }, kinds := [], alts := [], laidByText := true, laidKinds := [.data], laidTests := true, laidLooks := .later }
def BoxDeepUptoCardSaid : Prop := Claim7.holds Tryd.pinned (.plain (OpenSpec.upto boxDeepSpec)) boxDeepUptoCard

/-- THE SECOND FORM's CARD OF 'annuluslaw7.RealSigns'. -/
def realSignsUptoCard : Claim7 := { stood := { row := realSignsUptoRow, standIns := [], harness := (true, "9fb38e91aee4b2f13a715f0e26c4eb81e81ae1eeafeaca813ec1240f86f323ec"), looks := false }, kinds := [], alts := [], laidByText := true, laidKinds := [.data], laidTests := true, laidLooks := .later }
def RealSignsUptoCardSaid : Prop := Claim7.holds Tryd.pinned (.plain (OpenSpec.upto realSignsSpec)) realSignsUptoCard

/-- THE SECOND FORM's CARD OF 'annuluslaw7.RealLess'. -/
def realLessUptoCard : Claim7 := { stood := { row := realLessUptoRow, standIns := [], harness := (true, "9fb38e91aee4b2f13a715f0e26c4eb81e81ae1eeafeaca813ec1240f86f323ec"), looks := false }, kinds := [], alts := [], laidByText := true, laidKinds := [.data], laidTests := true, laidLooks := .later }
def RealLessUptoCardSaid : Prop := Claim7.holds Tryd.pinned (.plain (OpenSpec.upto realLessSpec)) realLessUptoCard

/-- THE SECOND FORM's CARD OF 'annuluslaw7.RealEnds'. -/
def realEndsUptoCard : Claim7 := { stood := { row := realEndsUptoRow, standIns := [], harness := (true, "9fb38e91aee4b2f13a715f0e26c4eb81e81ae1eeafeaca813ec1240f86f323ec"), looks := false }, kinds := [], alts := [], laidByText := true, laidKinds := [.data], laidTests := true, laidLooks := .later }
def RealEndsUptoCardSaid : Prop := Claim7.holds Tryd.pinned (.plain (OpenSpec.upto realEndsSpec)) realEndsUptoCard
end Rows
end Go.Proofs.YtmgbegcamhkblaaDoor
