/- Contracts of the given functions, on data. Conditions stand in each theorem. -/
import Derived.Test.YtlhhckpjcglinaaGreatDoorGAzBoxS
import Derived.Test.YtlhhckpjcglinaaGreatDoorGAzBox
set_option linter.unusedSimpArgs false
set_option linter.unusedVariables false
namespace Go.Ev.Ar
end Go.Ev.Ar
